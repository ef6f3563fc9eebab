-- WRITTEN BY THIS SESSION'S mprint.py upon the print: some functions are proved by hand
import Derived.Test.YtofebccpghkmgaaPRuleChecksx0
import Derived.Test.YtofebccpghkmgaaPRuleChecksx1
import Derived.Test.YtofebccpghkmgaaPRuleChecksx4
import Derived.Test.YtofebccpghkmgaaPRuleChecksx5
namespace Go.Proofs.Ytofebccpghkmgaa.PRuleChecks
open Go.RowKit Go.Proofs.YtofebccpghkmgaaW.PrintWords Go.Proofs.YtofebccpghkmgaaW.PrintLast Go.Proofs.YtofebccpghkmgaaW.PrintMore
attribute [local go_sem] max2_int min2_int max_two min_two max_three min_three max_four min_four   -- for this text's walks alone
set_option linter.unusedVariables false
set_option linter.unusedSimpArgs false

/-! ### desc_Escape: function 43 (my own) -/
theorem blk_facts6_x6 {w : World} {g : Nat} {t : TypeId} {a0 a1 a2 a3 a4 a5 : Value} (h : w.heap[g]? = some (.cells #[a0, a1, a2, a3, a4, a5] t (0, 0))) : w.cell? ⟨g, 0, none⟩ = some a0 ∧ w.cell? ⟨g, 1, none⟩ = some a1 ∧ w.cell? ⟨g, 2, none⟩ = some a2 ∧ w.cell? ⟨g, 3, none⟩ = some a3 ∧ w.cell? ⟨g, 4, none⟩ = some a4 ∧ w.cell? ⟨g, 5, none⟩ = some a5 ∧ w.frozen? ⟨g, 0, none⟩ = false ∧ w.frozen? ⟨g, 1, none⟩ = false ∧ w.frozen? ⟨g, 2, none⟩ = false ∧ w.frozen? ⟨g, 3, none⟩ = false ∧ w.frozen? ⟨g, 4, none⟩ = false ∧ w.frozen? ⟨g, 5, none⟩ = false := ⟨(blk_cell h 0).trans rfl, (blk_cell h 1).trans rfl, (blk_cell h 2).trans rfl, (blk_cell h 3).trans rfl, (blk_cell h 4).trans rfl, (blk_cell h 5).trans rfl, blk_frozen h 0, blk_frozen h 1, blk_frozen h 2, blk_frozen h 3, blk_frozen h 4, blk_frozen h 5⟩
def desc_Escape.HEX : List UInt8 := [48, 49, 50, 51, 52, 53, 54, 55, 56, 57, 65, 66, 67, 68, 69, 70]
def desc_Escape.one (c : UInt8) : List UInt8 := if desc_itself.self (c.toNat : Int) = true then [c] else [37, desc_Escape.HEX.getD (c.toNat / 16) 0, desc_Escape.HEX.getD (c.toNat % 16) 0]
theorem desc_Escape.hexcut : ∀ n : Fin 16, (⟨#[48, 49, 50, 51, 52, 53, 54, 55, 56, 57, 65, 66, 67, 68, 69, 70]⟩ : ByteArray).extract n.val (n.val + 1) = ⟨#[desc_Escape.HEX.getD n.val 0]⟩ := by decide +kernel
def desc_Escape.all (l : List UInt8) : List UInt8 := l.flatMap desc_Escape.one
theorem desc_Escape.one_len (c : UInt8) : (desc_Escape.one c).length ≤ 3 := by unfold desc_Escape.one; split <;> simp
theorem desc_Escape.all_snoc (l : List UInt8) (c : UInt8) : desc_Escape.all (l ++ [c]) = desc_Escape.all l ++ desc_Escape.one c := by unfold desc_Escape.all; simp
theorem desc_Escape.all_len (l : List UInt8) : (desc_Escape.all l).length ≤ 3 * l.length := by
  induction l with
  | nil => simp [desc_Escape.all]
  | cons a l ih =>
    have := desc_Escape.one_len a
    have e : desc_Escape.all (a :: l) = desc_Escape.one a ++ desc_Escape.all l := by unfold desc_Escape.all; simp
    rw [e, List.length_append, List.length_cons]; omega
theorem desc_Escape.take_snoc (s : ByteArray) (k : Nat) (h : k < s.size) : s.data.toList.take (k + 1) = s.data.toList.take k ++ [s[k]] := by
  rw [List.take_succ_eq_append_getElem (by simpa using h)]; rfl
theorem desc_Escape.cells_one (l : List UInt8) (c : UInt8) : Lib.byteCells l ++ [.int .u8 (c.toNat : Int)] = Lib.byteCells (l ++ [c]) := by unfold Lib.byteCells; simp
theorem desc_Escape.cells_str (l : List UInt8) (s : ByteArray) : Lib.byteCells l ++ Lib.strCells s = Lib.byteCells (l ++ s.data.toList) := by unfold Lib.byteCells Lib.strCells; simp
def desc_Escape.f (a0 : ByteArray) : Option (ByteArray) := if a0.size ≤ 1099511627776 then some ⟨(desc_Escape.all a0.data.toList).toArray⟩ else none
set_option maxHeartbeats 1000000 in
set_option maxRecDepth 100000 in
theorem desc_Escape.calls (s : ByteArray) (r : ByteArray) (w : World) (h : desc_Escape.f s = some r) :
    Calls Try.prog 43 #[.string s] w fun e w' => e = .returned (.string r) ∧ Below w.heap.size w w' := by
  unfold desc_Escape.f at h
  split at h
  · rename_i hs
    obtain rfl := Option.some.inj h
    clear h
    have hb0 := Aside0.mk (Lib.fresh_isBuilder 76 5 w)
    go_enter Try.func43, Try.ntmps43
    go_wp2
    go_loopw [8] (fun v8 wr => ∃ k : Nat, v8 = .int .i64 k ∧ k ≤ s.size ∧ Aside0 (Lib.IsBuilder 76 5 w.heap.size w.heap.size (Lib.byteCells (desc_Escape.all (s.data.toList.take k))) wr) ∧ Aside0 (Below w.heap.size w wr)) (fun v8 _ => s.size - (intOf v8).toNat)
    case atStart => exact ⟨0, rfl, Nat.zero_le _, hb0, ⟨(Below.refl _ _).alloc (Nat.le_refl _) _⟩⟩
    case round =>
      obtain ⟨k, rfl, hk, HB, HW⟩ := hrel
      clear hb0
      by_cases hlt : k < s.size
      · have HT := Aside0.mk (desc_Escape.take_snoc s k hlt)
        have hl := desc_Escape.all_len (s.data.toList.take k)
        have hl2 : (s.data.toList.take k).length ≤ k := List.length_take_le _ _
        have HL := Aside0.mk (show (Lib.byteCells (desc_Escape.all (s.data.toList.take k))).length ≤ 3298534883328 from by unfold Lib.byteCells; rw [List.length_map]; omega)
        clear hl hl2
        cases hc : desc_itself.self (s[k].toNat : Int) with
        | true =>
          have HC := Aside0.mk hc
          clear hc
          go_wp2_with fail
          (with_reducible refine (desc_itself.calls _ true _ (by unfold desc_itself.f; rw [HC.out])).mono ?_); rintro e w' ⟨rfl, ⟨nd, rfl⟩⟩
          go_wp2_with fail
          refine (Try.bld_WriteByte w.heap.size w.heap.size _ _ _ (show Lib.IsBuilder _ _ _ _ _ (wr.drewN nd) from HB.out) (by have := HL.out; omega) (show w.heap.size ≤ (wr.drewN nd).heap.size from HW.out.size)).mono ?_; rintro e w2 ⟨rfl, hb2, hw2⟩
          have HB2 := Aside0.mk hb2
          have HW2 := Aside0.mk (show Below w.heap.size w w2 from HW.out.trans ⟨hw2.os, hw2.tape, hw2.output, hw2.size, fun i hi => hw2.block i hi⟩)
          clear hb2 hw2
          go_wp2
          go_roundw
          case rel =>
            refine ⟨k + 1, by go_num, by omega, ⟨?_⟩, HW2⟩
            rw [HT.out, desc_Escape.all_snoc, show desc_Escape.one s[k] = [s[k]] from by unfold desc_Escape.one; rw [if_pos HC.out], ← desc_Escape.cells_one]
            exact .inr HB2.out
          case measure => simp [intOf]; omega
        | false =>
          have HC := Aside0.mk hc
          clear hc
          go_wp2_with fail
          (with_reducible refine (desc_itself.calls _ false _ (by unfold desc_itself.f; rw [HC.out])).mono ?_); rintro e w' ⟨rfl, ⟨nd, rfl⟩⟩
          have hc1 : s[k].toNat < 256 := s[k].toNat_lt
          have f0 : (0 : Int) ≤ (s[k].toNat : Int) / 16 := by omega
          have f1 : (s[k].toNat : Int) / 16 + 1 ≤ 16 := by omega
          have f1a : (s[k].toNat : Int) / 16 ≤ 16 := by omega
          have f1b : (s[k].toNat : Int) / 16 ≤ (s[k].toNat : Int) / 16 + 1 := by omega
          have f2 : (0 : Int) ≤ (s[k].toNat : Int) % 16 := by omega
          have f3 : (s[k].toNat : Int) % 16 + 1 ≤ 16 := by omega
          have f3b : (s[k].toNat : Int) % 16 ≤ (s[k].toNat : Int) % 16 + 1 := by omega
          have f4 : (0 : Int) ≤ (s[k].toNat : Int) / 16 + 1 := by omega
          have f5 : (0 : Int) ≤ (s[k].toNat : Int) % 16 + 1 := by omega
          have f6 : (s[k].toNat : Int) % 16 ≤ 16 := by omega
          have w1 : IntKind.u8.wrap ((s[k].toNat : Int) / 16 + 1) = (s[k].toNat : Int) / 16 + 1 := by rw [IntKind.wrap_u8]; omega
          have w2 : IntKind.u8.wrap ((s[k].toNat : Int) % 16 + 1) = (s[k].toNat : Int) % 16 + 1 := by rw [IntKind.wrap_u8]; omega
          have w3 : ((s[k].toNat : Int) / 16).toNat = s[k].toNat / 16 := by omega
          have w4 : ((s[k].toNat : Int) / 16 + 1).toNat = s[k].toNat / 16 + 1 := by omega
          have w5 : ((s[k].toNat : Int) % 16).toNat = s[k].toNat % 16 := by omega
          have w6 : ((s[k].toNat : Int) % 16 + 1).toNat = s[k].toNat % 16 + 1 := by omega
          have w7 : Go.bits .and .u8 (s[k].toNat : Int) 15 = (s[k].toNat : Int) % 16 := u8_and15 _ (by omega) (by omega)
          have x1 := desc_Escape.hexcut ⟨s[k].toNat / 16, by omega⟩
          have x2 := desc_Escape.hexcut ⟨s[k].toNat % 16, by omega⟩
          simp only [] at x1 x2
          have HX : Aside0 (desc_Escape.one s[k] = [37, desc_Escape.HEX.getD (s[k].toNat / 16) 0, desc_Escape.HEX.getD (s[k].toNat % 16) 0]) := ⟨by unfold desc_Escape.one; rw [if_neg (by rw [HC.out]; simp)]⟩
          generalize desc_Escape.HEX.getD (s[k].toNat / 16) 0 = b1 at x1 HX
          generalize desc_Escape.HEX.getD (s[k].toNat % 16) 0 = b2 at x2 HX
          have z1 : (⟨#[37]⟩ : ByteArray).size = 1 := rfl
          have z2 : (⟨#[b1]⟩ : ByteArray).size = 1 := rfl
          have z3 : (⟨#[b2]⟩ : ByteArray).size = 1 := rfl
          have z4 : ((⟨#[37]⟩ : ByteArray) ++ ⟨#[b1]⟩) = ⟨#[37, b1]⟩ := rfl
          have z5 : (⟨#[37, b1]⟩ : ByteArray).size = 2 := rfl
          have z5' : (⟨#[37, b1, b2]⟩ : ByteArray).size = 3 := rfl
          have z6 : ((⟨#[37, b1]⟩ : ByteArray) ++ ⟨#[b2]⟩) = ⟨#[37, b1, b2]⟩ := rfl
          go_wp2
          go_still_tail 14, (by kernel_rfl)
          change wpList _ _ _ _ _ ((wr.drewN nd).drew)
          have HB3 := Aside0.mk (show Lib.IsBuilder 76 5 w.heap.size w.heap.size (Lib.byteCells (desc_Escape.all (s.data.toList.take k))) ((wr.drewN nd).drew) from HB.out)
          have HW3 := Aside0.mk (show Below w.heap.size w ((wr.drewN nd).drew) from ⟨HW.out.os, HW.out.tape, HW.out.output, HW.out.size, HW.out.block⟩)
          generalize (wr.drewN nd).drew = wz at HB3 HW3
          clear f0 f1 f1a f1b f2 f3 f3b f4 f5 f6 w1 w2 w3 w4 w5 w6 w7 x1 x2 z1 z2 z3 z4 z6 HB HW
          go_wp2_with fail
          refine (Try.bld_WriteString w.heap.size w.heap.size _ _ _ HB3.out (by have := HL.out; rw [z5']; omega) HW3.out.size).mono ?_; rintro e w2 ⟨rfl, hb2, hw2⟩
          have HB2 := Aside0.mk hb2
          have HW2 := Aside0.mk (show Below w.heap.size w w2 from HW3.out.trans ⟨hw2.os, hw2.tape, hw2.output, hw2.size, fun i hi => hw2.block i hi⟩)
          clear hb2 hw2
          go_wp2
          go_roundw
          case rel =>
            refine ⟨k + 1, by go_num, by omega, ⟨?_⟩, HW2⟩
            rw [HT.out, desc_Escape.all_snoc, HX.out, show ([37, b1, b2] : List UInt8) = (⟨#[37, b1, b2]⟩ : ByteArray).data.toList from rfl, ← desc_Escape.cells_str]
            exact .inr HB2.out
          case measure => simp [intOf]; omega
      · have e : s.data.toList.take k = s.data.toList := List.take_of_length_le (by simp; omega)
        rw [e] at HB
        clear e
        go_wp2_with fail
        refine (Try.bld_String w.heap.size w.heap.size _ _ HB.out HW.out.size).mono ?_; rintro e w2 ⟨rfl, hw2⟩
        have HW2 := Aside0.mk (show Below w.heap.size w w2 from HW.out.trans ⟨hw2.os, hw2.tape, hw2.output, hw2.size, fun i hi => hw2.block i hi⟩)
        clear hw2
        go_wp2
        go_ret
        exact ⟨rfl, HW2.out⟩
  · cases h

/-! ### rule_Text: function 18 -/
def rule_Text.j0 : Nat → ByteArray → ByteArray → Int → Int → Nat → Bool → Bool → Option (ByteArray)
  | 0, _, _, _, _, _, _, _ => none
  | k + 1, x3, x192000, x192001, x192002, x192003, x192004, x192005 => if x192004 = true then (if x3.size + 7 ≤ 9223372036854775807 then (if x192000.toList = ([] : List UInt8) then (some (x3 ++ (⟨#[32, 115, 104, 97, 100, 111, 119]⟩ : ByteArray))) else ((desc_Escape.f x192000).bind fun t197 => (if 1 + t197.size ≤ 9223372036854775807 then (if x3.size + 7 + 1 + t197.size ≤ 9223372036854775807 then (some ((x3 ++ (⟨#[32, 115, 104, 97, 100, 111, 119]⟩ : ByteArray)) ++ ((⟨#[32]⟩ : ByteArray) ++ t197))) else (none)) else (none)))) else (none)) else (if x192000.toList = ([] : List UInt8) then (some x3) else ((desc_Escape.f x192000).bind fun t198 => (if 1 + t198.size ≤ 9223372036854775807 then (if x3.size + 1 + t198.size ≤ 9223372036854775807 then (some (x3 ++ ((⟨#[32]⟩ : ByteArray) ++ t198))) else (none)) else (none))))
def rule_Text.f (k : Nat) (a0_0 : ByteArray) (a0_1 : Int) (a0_2 : Int) (a0_3 : Nat) (a0_4 : Bool) (a0_5 : Bool) : Option (ByteArray) := (rule_Check.f k a0_0 a0_1 a0_2 a0_3 a0_4 a0_5).bind fun t192 => (if t192 = 0 then (if a0_5 = true then (rule_Text.j0 k (⟨#[117, 110, 108, 105, 109, 105, 116, 101, 100]⟩ : ByteArray) a0_0 a0_1 a0_2 a0_3 a0_4 a0_5) else ((ratio_Write.f k a0_3).bind fun bt193 => ((num_Digits.f k a0_2).bind fun t195 => (if t195.size + 5 ≤ 9223372036854775807 then ((unit_Name.f a0_1).bind fun t196 => (if t195.size + 5 + t196.size ≤ 9223372036854775807 then (if t195.size + 5 + t196.size + 6 ≤ 9223372036854775807 then (if t195.size + 5 + t196.size + 6 + bt193.1.size ≤ 9223372036854775807 then (rule_Text.j0 k ((((t195 ++ (⟨#[32, 112, 101, 114, 32]⟩ : ByteArray)) ++ t196) ++ (⟨#[32, 110, 101, 97, 114, 32]⟩ : ByteArray)) ++ bt193.1) a0_0 a0_1 a0_2 a0_3 a0_4 a0_5) else (none)) else (none)) else (none))) else (none))))) else (some (⟨#[]⟩ : ByteArray)))
theorem rule_Text.mono_l : ∀ k, (∀ y0 y1 y2 y3 y4 y5 y6, LeO (rule_Text.j0 k y0 y1 y2 y3 y4 y5 y6) (rule_Text.j0 (k + 1) y0 y1 y2 y3 y4 y5 y6))
  | 0 => fun _ _ _ _ _ _ _ r h => by simp [rule_Text.j0] at h
  | k + 1 => by
    have ih0 := rule_Text.mono_l k
    · intro y0 y1 y2 y3 y4 y5 y6
      unfold rule_Text.j0
      repeat' first
      | (with_reducible exact ih0 _ _ _ _ _ _ _)
      | (with_reducible exact num_Digits.mono _ _)
      | (with_reducible exact ratio_Write.mono _ _)
      | (with_reducible exact rule_Check.mono _ _ _ _ _ _ _)
      | (with_reducible exact LeO.refl _)
      | (with_reducible exact LeO.none _)
      | (with_reducible refine LeO.ite ?_ ?_)
      | (with_reducible refine LeO.bind ?_ (fun _ => ?_))
      | exact ih0 _ _ _ _ _ _ _
      | exact num_Digits.mono _ _
      | exact ratio_Write.mono _ _
      | exact rule_Check.mono _ _ _ _ _ _ _
      | exact LeO.none _
      | refine LeO.ite ?_ ?_
      | refine LeO.bind ?_ (fun _ => ?_)
theorem rule_Text.mono : ∀ a0 a1 a2 a3 a4 a5 k, LeO (rule_Text.f k a0 a1 a2 a3 a4 a5) (rule_Text.f (k + 1) a0 a1 a2 a3 a4 a5) := by
  intro a0 a1 a2 a3 a4 a5 k
  have ih0 := rule_Text.mono_l k
  unfold rule_Text.f
  repeat' first
      | (with_reducible exact ih0 _ _ _ _ _ _ _)
      | (with_reducible exact num_Digits.mono _ _)
      | (with_reducible exact ratio_Write.mono _ _)
      | (with_reducible exact rule_Check.mono _ _ _ _ _ _ _)
      | (with_reducible exact LeO.refl _)
      | (with_reducible exact LeO.none _)
      | (with_reducible refine LeO.ite ?_ ?_)
      | (with_reducible refine LeO.bind ?_ (fun _ => ?_))
      | exact ih0 _ _ _ _ _ _ _
      | exact num_Digits.mono _ _
      | exact ratio_Write.mono _ _
      | exact rule_Check.mono _ _ _ _ _ _ _
      | exact LeO.none _
      | refine LeO.ite ?_ ?_
      | refine LeO.bind ?_ (fun _ => ?_)
def rule_Text.T6 : Bool × List (List Nat × List Nat) := (true, [([], []), ([0], [0]), ([1], [1]), ([2], [2]), ([], []), ([4], [4]), ([5, 2], [5]), ([3, 6], [3, 6]), ([7], [7]), ([], []), ([8, 9], [8, 9]), ([10, 6, 0, 1, 2, 3, 4, 5, 6, 7, 8, 9, 10], [10])])
def rule_Text.B6 : List Nat := [0, 1, 3, 7, 0, 16, 55, 127, 255, 0, 1023, 2047]
theorem rule_Text.tab6 : rtab .any (opsOf Try.f18 6) = rule_Text.T6 := by kernel_rfl
theorem rule_Text.bits6 : waitsOk rule_Text.T6.2 rule_Text.B6 = true := by kernel_rfl
set_option maxHeartbeats 8000000 in
set_option maxRecDepth 100000 in
theorem rule_Text.calls (k : Nat) (a0_0 : ByteArray) (a0_1 : Int) (a0_2 : Int) (a0_3 : Nat) (a0_4 : Bool) (a0_5 : Bool) (r : ByteArray) (w : World) (h : rule_Text.f k a0_0 a0_1 a0_2 a0_3 a0_4 a0_5 = some r) :
    Calls Try.prog 18 #[.agg #[.string a0_0, .int .i64 a0_1, .int .i64 a0_2, .float .f64 a0_3, .bool a0_4, .bool a0_5]] w fun e w' => e = .returned (.string r) ∧ Below w.heap.size w w' := by
  have hu24 := Try.underlying24
  have HB := Aside0.mk (Below.refl w.heap.size w)
  have H : ((rule_Check.f k a0_0 a0_1 a0_2 a0_3 a0_4 a0_5).bind fun t192 => (if t192 = 0 then (if a0_5 = true then (rule_Text.j0 k (⟨#[117, 110, 108, 105, 109, 105, 116, 101, 100]⟩ : ByteArray) a0_0 a0_1 a0_2 a0_3 a0_4 a0_5) else ((ratio_Write.f k a0_3).bind fun bt193 => ((num_Digits.f k a0_2).bind fun t195 => (if t195.size + 5 ≤ 9223372036854775807 then ((unit_Name.f a0_1).bind fun t196 => (if t195.size + 5 + t196.size ≤ 9223372036854775807 then (if t195.size + 5 + t196.size + 6 ≤ 9223372036854775807 then (if t195.size + 5 + t196.size + 6 + bt193.1.size ≤ 9223372036854775807 then (rule_Text.j0 k ((((t195 ++ (⟨#[32, 112, 101, 114, 32]⟩ : ByteArray)) ++ t196) ++ (⟨#[32, 110, 101, 97, 114, 32]⟩ : ByteArray)) ++ bt193.1) a0_0 a0_1 a0_2 a0_3 a0_4 a0_5) else (none)) else (none)) else (none))) else (none))))) else (some (⟨#[]⟩ : ByteArray)))) = some r := h
  clear h
  replace H := Option.bind_eq_some_iff.mp H
  obtain ⟨t192, A20, H⟩ := H
  replace H : (if t192 = 0 then (if a0_5 = true then (rule_Text.j0 k (⟨#[117, 110, 108, 105, 109, 105, 116, 101, 100]⟩ : ByteArray) a0_0 a0_1 a0_2 a0_3 a0_4 a0_5) else ((ratio_Write.f k a0_3).bind fun bt193 => ((num_Digits.f k a0_2).bind fun t195 => (if t195.size + 5 ≤ 9223372036854775807 then ((unit_Name.f a0_1).bind fun t196 => (if t195.size + 5 + t196.size ≤ 9223372036854775807 then (if t195.size + 5 + t196.size + 6 ≤ 9223372036854775807 then (if t195.size + 5 + t196.size + 6 + bt193.1.size ≤ 9223372036854775807 then (rule_Text.j0 k ((((t195 ++ (⟨#[32, 112, 101, 114, 32]⟩ : ByteArray)) ++ t196) ++ (⟨#[32, 110, 101, 97, 114, 32]⟩ : ByteArray)) ++ bt193.1) a0_0 a0_1 a0_2 a0_3 a0_4 a0_5) else (none)) else (none)) else (none))) else (none))))) else (some (⟨#[]⟩ : ByteArray))) = some r := H
  have A2 := Aside0.mk A20
  clear A20
  by_cases c3 : t192 = 0
  · rw [if_pos c3] at H
    have c3b0 : (t192 == 0) = true := beq_iff_eq.mpr c3
    have c3b1 : (t192 != 0) = false := bne_eq_false_iff_eq.mpr c3
    clear c3
    have HC4 := Aside0.mk H
    clear H
    go_enter Try.func18, Try.ntmps18
    go_upto_if 11 with (first | ((with_reducible refine gate_dst (N := 1) rfl ?_); refine box_event ?hg (N := 1) ?hd (cs := #[.string a0_0, .int .i64 a0_1, .int .i64 a0_2, .float .f64 a0_3, .bool a0_4, .bool a0_5]) (t := 24) ?hr ?_; (case hd => rfl); (case hg => rfl); (case hr => first | (go_simp; done) | (go_simp; rfl)); intro gb191 hg w5 hbox hb; have n0_ := Aside0.mk (below_step (by repeat (first | (with_reducible first | exact HB.out | apply below_alloc | apply pw_below_drewN | apply below_drew1) | exact HB.out)) hb); have n1_ := Aside0.mk (hbox); have n2_ := Aside0.mk ((by rw [hg]; exact (below_size (by repeat (first | (with_reducible first | exact HB.out | apply below_alloc | apply pw_below_drewN | apply below_drew1) | exact HB.out))) : w.heap.size ≤ gb191)); have n3_ := Aside0.mk ((by rw [hg]; exact (below_size (by repeat (first | (with_reducible first | exact HB.out | apply below_alloc | apply pw_below_drewN | apply below_drew1) | exact HB.out))) : w.heap.size ≤ gb191)); clear HB; have HB := n0_; have BK191 := n1_; have GW191 := n2_; have GE191 := n3_; clear n0_ n1_ n2_ n3_; clear hb hbox hg; obtain ⟨hcz6_0, hcz6_1, hcz6_2, hcz6_3, hcz6_4, hcz6_5, hfz6_0, hfz6_1, hfz6_2, hfz6_3, hfz6_4, hfz6_5⟩ := blk_facts6_x6 BK191.out) | ((with_reducible refine gate_callee (f := 14) rfl ?_); refine goesL_ (some 7) rfl rfl Try.func14 (by kernel_rfl) rfl #[.agg #[.string a0_0, .int .i64 a0_1, .int .i64 a0_2, .float .f64 a0_3, .bool a0_4, .bool a0_5]] rfl (by (try simp only [List.map_toArray, List.map_cons, List.map_nil]); first | done | rfl | (simp only [List.length_drop, List.length_take]; rfl)) ?_; (with_reducible refine (rule_Check.calls k a0_0 a0_1 a0_2 a0_3 a0_4 a0_5 t192 _ A2.out).mono ?_); rintro e w7 ⟨rfl, hb⟩; refine ⟨_, rfl, ?_⟩; have n0_ := Aside0.mk (blk_below (g := gb191) (o := .cells #[.string a0_0, .int .i64 a0_1, .int .i64 a0_2, .float .f64 a0_3, .bool a0_4, .bool a0_5] 24 (0, 0)) (by (with_reducible repeat (first | refine blk_drewN ?_ _ | refine blk_drew ?_ | refine blk_alloc ?_ _)); exact BK191.out) hb); have n1_ := Aside0.mk (below_step (by repeat (first | (with_reducible first | exact HB.out | apply below_alloc | apply pw_below_drewN | apply below_drew1 | refine below_set ?_ GE191.out) | exact HB.out)) hb); clear BK191; clear HB; have BK191 := n0_; have HB := n1_; clear n0_ n1_; (try clear hb); (try clear hb2); (try clear hk); (try clear hi); obtain ⟨hcz8_0, hcz8_1, hcz8_2, hcz8_3, hcz8_4, hcz8_5, hfz8_0, hfz8_1, hfz8_2, hfz8_3, hfz8_4, hfz8_5⟩ := blk_facts6_x6 BK191.out))
    (try simp only [Act.put, List.setIfInBounds_toArray, List.set_cons_zero, List.set_cons_succ])
    go_cut [3] (fun v3 wc => ∃ (kq : Nat) (x3_3 : ByteArray), v3 = .string x3_3 ∧ Aside0 (rule_Text.j0 kq x3_3 a0_0 a0_1 a0_2 a0_3 a0_4 a0_5 = some r) ∧ Aside0 (kq ≤ k) ∧ Aside0 (wc.heap[gb191]? = some (.cells #[.string a0_0, .int .i64 a0_1, .int .i64 a0_2, .float .f64 a0_3, .bool a0_4, .bool a0_5] 24 (0, 0))) ∧ Aside0 (Below w.heap.size w wc))
    case first =>
      have H := HC4.out
      clear HC4
      by_cases c9 : a0_5 = true
      · subst c9
        have H1 : (rule_Text.j0 k (⟨#[117, 110, 108, 105, 109, 105, 116, 101, 100]⟩ : ByteArray) a0_0 a0_1 a0_2 a0_3 a0_4 true) = some r := by rw [if_pos rfl] at H; exact H
        clear H
        have H := H1
        clear H1
        have H' := Aside0.mk H
        clear H
        go_wp2
        go_meet
        case rel => exact ⟨_, ((⟨#[117, 110, 108, 105, 109, 105, 116, 101, 100]⟩ : ByteArray)), (by first | rfl | (simp; done) | (simp [*]; done)), H', ⟨by first | omega | exact Nat.le_refl _⟩, ⟨by (with_reducible repeat (first | refine blk_drewN ?_ _ | refine blk_drew ?_ | refine blk_alloc ?_ _)); exact BK191.out⟩, ⟨by repeat (first | (with_reducible first | exact HB.out | apply below_alloc | apply pw_below_drewN | apply below_drew1 | refine below_set ?_ GE191.out) | exact HB.out)⟩⟩
      · replace c9 := Bool.eq_false_iff.mpr c9
        subst c9
        have H1 : ((ratio_Write.f k a0_3).bind fun bt193 => ((num_Digits.f k a0_2).bind fun t195 => (if t195.size + 5 ≤ 9223372036854775807 then ((unit_Name.f a0_1).bind fun t196 => (if t195.size + 5 + t196.size ≤ 9223372036854775807 then (if t195.size + 5 + t196.size + 6 ≤ 9223372036854775807 then (if t195.size + 5 + t196.size + 6 + bt193.1.size ≤ 9223372036854775807 then (rule_Text.j0 k ((((t195 ++ (⟨#[32, 112, 101, 114, 32]⟩ : ByteArray)) ++ t196) ++ (⟨#[32, 110, 101, 97, 114, 32]⟩ : ByteArray)) ++ bt193.1) a0_0 a0_1 a0_2 a0_3 a0_4 false) else (none)) else (none)) else (none))) else (none)))) = some r := by rw [if_neg (show ¬ (false = true) by decide)] at H; exact H
        clear H
        have H := H1
        clear H1
        replace H := Option.bind_eq_some_iff.mp H
        obtain ⟨⟨t193, t194⟩, A100, H⟩ := H
        replace H : ((num_Digits.f k a0_2).bind fun t195 => (if t195.size + 5 ≤ 9223372036854775807 then ((unit_Name.f a0_1).bind fun t196 => (if t195.size + 5 + t196.size ≤ 9223372036854775807 then (if t195.size + 5 + t196.size + 6 ≤ 9223372036854775807 then (if t195.size + 5 + t196.size + 6 + t193.size ≤ 9223372036854775807 then (rule_Text.j0 k ((((t195 ++ (⟨#[32, 112, 101, 114, 32]⟩ : ByteArray)) ++ t196) ++ (⟨#[32, 110, 101, 97, 114, 32]⟩ : ByteArray)) ++ t193) a0_0 a0_1 a0_2 a0_3 a0_4 false) else (none)) else (none)) else (none))) else (none))) = some r := H
        have A10 := Aside0.mk A100
        clear A100
        replace H := Option.bind_eq_some_iff.mp H
        obtain ⟨t195, A110, H⟩ := H
        replace H : (if t195.size + 5 ≤ 9223372036854775807 then ((unit_Name.f a0_1).bind fun t196 => (if t195.size + 5 + t196.size ≤ 9223372036854775807 then (if t195.size + 5 + t196.size + 6 ≤ 9223372036854775807 then (if t195.size + 5 + t196.size + 6 + t193.size ≤ 9223372036854775807 then (rule_Text.j0 k ((((t195 ++ (⟨#[32, 112, 101, 114, 32]⟩ : ByteArray)) ++ t196) ++ (⟨#[32, 110, 101, 97, 114, 32]⟩ : ByteArray)) ++ t193) a0_0 a0_1 a0_2 a0_3 a0_4 false) else (none)) else (none)) else (none))) else (none)) = some r := H
        have A11 := Aside0.mk A110
        clear A110
        by_cases c12 : t195.size + 5 ≤ 9223372036854775807
        · rw [if_pos c12] at H
          have c12b0 := eq_true c12
          have c12b1 : decide (t195.size + 5 ≤ 9223372036854775807) = true := decide_eq_true c12
          try have c12b2 : (9223372036854775807 < t195.size + 5) = False := eq_false (Nat.not_lt.2 c12)
          replace H := Option.bind_eq_some_iff.mp H
          obtain ⟨t196, A130, H⟩ := H
          replace H : (if t195.size + 5 + t196.size ≤ 9223372036854775807 then (if t195.size + 5 + t196.size + 6 ≤ 9223372036854775807 then (if t195.size + 5 + t196.size + 6 + t193.size ≤ 9223372036854775807 then (rule_Text.j0 k ((((t195 ++ (⟨#[32, 112, 101, 114, 32]⟩ : ByteArray)) ++ t196) ++ (⟨#[32, 110, 101, 97, 114, 32]⟩ : ByteArray)) ++ t193) a0_0 a0_1 a0_2 a0_3 a0_4 false) else (none)) else (none)) else (none)) = some r := H
          have A13 := Aside0.mk A130
          clear A130
          by_cases c14 : t195.size + 5 + t196.size ≤ 9223372036854775807
          · rw [if_pos c14] at H
            have c14b0 := eq_true c14
            have c14b1 : decide (t195.size + 5 + t196.size ≤ 9223372036854775807) = true := decide_eq_true c14
            try have c14b2 : (9223372036854775807 < t195.size + 5 + t196.size) = False := eq_false (Nat.not_lt.2 c14)
            by_cases c15 : t195.size + 5 + t196.size + 6 ≤ 9223372036854775807
            · rw [if_pos c15] at H
              have c15b0 := eq_true c15
              have c15b1 : decide (t195.size + 5 + t196.size + 6 ≤ 9223372036854775807) = true := decide_eq_true c15
              try have c15b2 : (9223372036854775807 < t195.size + 5 + t196.size + 6) = False := eq_false (Nat.not_lt.2 c15)
              by_cases c16 : t195.size + 5 + t196.size + 6 + t193.size ≤ 9223372036854775807
              · rw [if_pos c16] at H
                have c16b0 := eq_true c16
                have c16b1 : decide (t195.size + 5 + t196.size + 6 + t193.size ≤ 9223372036854775807) = true := decide_eq_true c16
                try have c16b2 : (9223372036854775807 < t195.size + 5 + t196.size + 6 + t193.size) = False := eq_false (Nat.not_lt.2 c16)
                have H' := Aside0.mk H
                clear H
                obtain ⟨hcz17_0, hcz17_1, hcz17_2, hcz17_3, hcz17_4, hcz17_5, hfz17_0, hfz17_1, hfz17_2, hfz17_3, hfz17_4, hfz17_5⟩ := blk_facts6_x6 BK191.out
                try go_wp2_with (first | ((with_reducible refine gate_callee (f := 40) rfl ?_); refine goesL_ (some 15) rfl rfl Try.func40 (by kernel_rfl) rfl #[.float .f64 a0_3] rfl (by (try simp only [List.map_toArray, List.map_cons, List.map_nil]); first | done | rfl | (simp only [List.length_drop, List.length_take]; rfl)) ?_; (with_reducible refine (ratio_Write.calls k a0_3 t193 t194 _ A10.out).mono ?_); rintro e w18 ⟨rfl, hb⟩; refine ⟨_, rfl, ?_⟩; have n0_ := Aside0.mk (blk_below (g := gb191) (o := .cells #[.string a0_0, .int .i64 a0_1, .int .i64 a0_2, .float .f64 a0_3, .bool a0_4, .bool false] 24 (0, 0)) (by (with_reducible repeat (first | refine blk_drewN ?_ _ | refine blk_drew ?_ | refine blk_alloc ?_ _)); exact BK191.out) hb); have n1_ := Aside0.mk (below_step (by repeat (first | (with_reducible first | exact HB.out | apply below_alloc | apply pw_below_drewN | apply below_drew1 | refine below_set ?_ GE191.out) | exact HB.out)) hb); clear BK191; clear HB; have BK191 := n0_; have HB := n1_; clear n0_ n1_; (try clear hb); (try clear hb2); (try clear hk); (try clear hi)))
                have n0_ := Aside0.mk (blk_drew BK191.out)
                have n1_ := Aside0.mk (below_drew1 HB.out)
                clear BK191
                clear HB
                have BK191 := n0_
                have HB := n1_
                clear n0_ n1_
                refine start_ (n := 12) (S := fun w' => w'.cell? ⟨gb191, 0, none⟩ = some (.string a0_0) ∧ w'.cell? ⟨gb191, 1, none⟩ = some (.int .i64 a0_1) ∧ w'.cell? ⟨gb191, 2, none⟩ = some (.int .i64 a0_2) ∧ w'.cell? ⟨gb191, 3, none⟩ = some (.float .f64 a0_3) ∧ w'.cell? ⟨gb191, 4, none⟩ = some (.bool a0_4) ∧ w'.cell? ⟨gb191, 5, none⟩ = some (.bool false)) (ds := []) #[false, false, false, false, false, false, false, false, false, false, false, false] (by kernel_rfl) rfl rfl ⟨(blk_cell BK191.out 0).trans rfl, (blk_cell BK191.out 1).trans rfl, (blk_cell BK191.out 2).trans rfl, (blk_cell BK191.out 3).trans rfl, (blk_cell BK191.out 4).trans rfl, (blk_cell BK191.out 5).trans rfl⟩ (fun hHeld => ?_); refine with_tabW rule_Text.tab6 rule_Text.bits6 (fun HT_ HW_ => ?_)
                generalize w18.drew = w19 at BK191 HB hHeld ⊢
                refine pure_ (i := 0) (N := some 18) (v := ?_) (a' := ?_) #[true, false, false, false, false, false, false, false, false, false, false, false] rfl rfl (any_of HT_.out (by kernel_rfl)) (fun _ _ _ h => h) (Or.inl ⟨by rfl, ?_⟩) ?_ ?_
                rotate_left
                · intro w'
                  go_simp
                  (first | with_reducible rfl | (rw [if_neg (by first | omega | (simp only [ByteArray.size_append] at *; omega) | (have hl_ : ∀ l_ : List UInt8, (⟨l_.toArray⟩ : ByteArray).size = l_.length := (fun l_ => by show l_.toArray.size = _; simp); simp only [ByteArray.size_append, hl_, List.length_cons, List.length_nil] at *; omega))]))
                rotate_left
                · simp only [Act.put, List.setIfInBounds_toArray, List.set_cons_zero, List.set_cons_succ, i64_w, i32_w]
                  rfl
                refine pure_ (i := 4) (N := some 22) (v := ?_) (a' := ?_) #[true, false, false, false, true, false, false, false, false, false, false, false] rfl rfl (any_of HT_.out (by kernel_rfl)) (fun _ _ _ h => h) (Or.inl ⟨by rfl, ?_⟩) ?_ ?_
                rotate_left
                · intro w'
                  go_simp
                  (first | with_reducible rfl | (rw [if_neg (by first | omega | (simp only [ByteArray.size_append] at *; omega) | (have hl_ : ∀ l_ : List UInt8, (⟨l_.toArray⟩ : ByteArray).size = l_.length := (fun l_ => by show l_.toArray.size = _; simp); simp only [ByteArray.size_append, hl_, List.length_cons, List.length_nil] at *; omega))]))
                rotate_left
                · simp only [Act.put, List.setIfInBounds_toArray, List.set_cons_zero, List.set_cons_succ, i64_w, i32_w]
                  rfl
                refine pure_ (i := 9) (N := some 27) (v := ?_) (a' := ?_) #[true, false, false, false, true, false, false, false, false, true, false, false] rfl rfl (any_of HT_.out (by kernel_rfl)) (fun _ _ _ h => h) (Or.inl ⟨by rfl, ?_⟩) ?_ ?_
                rotate_left
                · intro w'
                  go_simp
                  (first | with_reducible rfl | (rw [if_neg (by first | omega | (simp only [ByteArray.size_append] at *; omega) | (have hl_ : ∀ l_ : List UInt8, (⟨l_.toArray⟩ : ByteArray).size = l_.length := (fun l_ => by show l_.toArray.size = _; simp); simp only [ByteArray.size_append, hl_, List.length_cons, List.length_nil] at *; omega))]))
                rotate_left
                · simp only [Act.put, List.setIfInBounds_toArray, List.set_cons_zero, List.set_cons_succ, i64_w, i32_w]
                  rfl
                refine take_ (i := 1) (N := some 19) (v := ?_) (a' := ?_) #[true, true, false, false, true, false, false, false, false, true, false, false] rfl rfl (take_ofW HT_.out HW_.out (by kernel_rfl)) (fun _ _ _ h => h) (Or.inl ⟨by rfl, ?_⟩) hHeld ?_ ?_
                rotate_left
                · rintro w' ⟨s0, s1, s2, s3, s4, s5⟩
                  go_simp
                  (first | with_reducible rfl | (rw [if_neg (by first | omega | (simp only [ByteArray.size_append] at *; omega) | (have hl_ : ∀ l_ : List UInt8, (⟨l_.toArray⟩ : ByteArray).size = l_.length := (fun l_ => by show l_.toArray.size = _; simp); simp only [ByteArray.size_append, hl_, List.length_cons, List.length_nil] at *; omega))]))
                rotate_left
                · simp only [Act.put, List.setIfInBounds_toArray, List.set_cons_zero, List.set_cons_succ, i64_w, i32_w]
                  rfl
                refine take_ (i := 5) (N := some 23) (v := ?_) (a' := ?_) #[true, true, false, false, true, true, false, false, false, true, false, false] rfl rfl (take_ofW HT_.out HW_.out (by kernel_rfl)) (fun _ _ _ h => h) (Or.inl ⟨by rfl, ?_⟩) hHeld ?_ ?_
                rotate_left
                · rintro w' ⟨s0, s1, s2, s3, s4, s5⟩
                  go_simp
                  (first | with_reducible rfl | (rw [if_neg (by first | omega | (simp only [ByteArray.size_append] at *; omega) | (have hl_ : ∀ l_ : List UInt8, (⟨l_.toArray⟩ : ByteArray).size = l_.length := (fun l_ => by show l_.toArray.size = _; simp); simp only [ByteArray.size_append, hl_, List.length_cons, List.length_nil] at *; omega))]))
                rotate_left
                · simp only [Act.put, List.setIfInBounds_toArray, List.set_cons_zero, List.set_cons_succ, i64_w, i32_w]
                  rfl
                refine one_ (i := 2) (N := some 20) #[true, true, true, false, true, true, false, false, false, true, false, false] rfl rfl (one_of HT_.out (by kernel_rfl)) (by decide) (fun K hK => ?_)
                refine goes_ Try.func41 (by kernel_rfl) rfl #[.int .i64 a0_2] (by rfl) rfl rfl (by (try simp only [List.map_toArray, List.map_cons, List.map_nil]); first | done | rfl | (simp only [List.length_drop, List.length_take]; rfl)) ?_
                with_reducible refine (num_Digits.calls k a0_2 t195 _ A11.out).mono ?_
                rintro e w20 ⟨rfl, hb⟩
                refine ⟨_, rfl, ?_⟩
                have n0_ := Aside0.mk (blk_below (g := gb191) (o := .cells #[.string a0_0, .int .i64 a0_1, .int .i64 a0_2, .float .f64 a0_3, .bool a0_4, .bool false] 24 (0, 0)) (by (with_reducible repeat (first | refine blk_drewN ?_ _ | refine blk_drew ?_ | refine blk_alloc ?_ _)); exact BK191.out) hb)
                have n1_ := Aside0.mk (below_step (by repeat (first | (with_reducible first | exact HB.out | apply below_alloc | apply pw_below_drewN | apply below_drew1 | refine below_set ?_ GE191.out) | exact HB.out)) hb)
                clear BK191
                clear HB
                have BK191 := n0_
                have HB := n1_
                clear n0_ n1_
                (try clear hb)
                (try clear hb2)
                (try clear hk)
                (try clear hi)
                refine hK.out _ _ ⟨(blk_cell BK191.out 0).trans rfl, (blk_cell BK191.out 1).trans rfl, (blk_cell BK191.out 2).trans rfl, (blk_cell BK191.out 3).trans rfl, (blk_cell BK191.out 4).trans rfl, (blk_cell BK191.out 5).trans rfl⟩ (fun hHeld => ?_)
                clear hK K
                refine norm_ (a' := ?_) ?_ ?_
                rotate_left
                · show Act.put _ (some 20) _ = _
                  simp only [Act.put, List.setIfInBounds_toArray, List.set_cons_zero, List.set_cons_succ, i64_w, i32_w]
                  rfl
                refine pure_ (i := 3) (N := some 21) (v := ?_) (a' := ?_) #[true, true, true, true, true, true, false, false, false, true, false, false] rfl rfl (any_of HT_.out (by kernel_rfl)) (fun _ _ _ h => h) (Or.inl ⟨by rfl, ?_⟩) ?_ ?_
                rotate_left
                · intro w'
                  go_simp
                  (first | with_reducible rfl | (rw [if_neg (by first | omega | (simp only [ByteArray.size_append] at *; omega) | (have hl_ : ∀ l_ : List UInt8, (⟨l_.toArray⟩ : ByteArray).size = l_.length := (fun l_ => by show l_.toArray.size = _; simp); simp only [ByteArray.size_append, hl_, List.length_cons, List.length_nil] at *; omega))]))
                rotate_left
                · simp only [Act.put, List.setIfInBounds_toArray, List.set_cons_zero, List.set_cons_succ, i64_w, i32_w]
                  rfl
                refine one_ (i := 6) (N := some 24) #[true, true, true, true, true, true, true, false, false, true, false, false] rfl rfl (one_of HT_.out (by kernel_rfl)) (by decide) (fun K hK => ?_)
                refine goes_ Try.func42 (by kernel_rfl) rfl #[.int .i64 a0_1] (by rfl) rfl rfl (by (try simp only [List.map_toArray, List.map_cons, List.map_nil]); first | done | rfl | (simp only [List.length_drop, List.length_take]; rfl)) ?_
                with_reducible refine (unit_Name.calls a0_1 t196 _ A13.out).mono ?_
                rintro e w21 ⟨rfl, hb⟩
                refine ⟨_, rfl, ?_⟩
                have n0_ := Aside0.mk (blk_below (g := gb191) (o := .cells #[.string a0_0, .int .i64 a0_1, .int .i64 a0_2, .float .f64 a0_3, .bool a0_4, .bool false] 24 (0, 0)) (by (with_reducible repeat (first | refine blk_drewN ?_ _ | refine blk_drew ?_ | refine blk_alloc ?_ _)); exact BK191.out) hb)
                have n1_ := Aside0.mk (below_step (by repeat (first | (with_reducible first | exact HB.out | apply below_alloc | apply pw_below_drewN | apply below_drew1 | refine below_set ?_ GE191.out) | exact HB.out)) hb)
                clear BK191
                clear HB
                have BK191 := n0_
                have HB := n1_
                clear n0_ n1_
                (try clear hb)
                (try clear hb2)
                (try clear hk)
                (try clear hi)
                refine hK.out _ _ ⟨(blk_cell BK191.out 0).trans rfl, (blk_cell BK191.out 1).trans rfl, (blk_cell BK191.out 2).trans rfl, (blk_cell BK191.out 3).trans rfl, (blk_cell BK191.out 4).trans rfl, (blk_cell BK191.out 5).trans rfl⟩ (fun hHeld => ?_)
                clear hK K
                refine norm_ (a' := ?_) ?_ ?_
                rotate_left
                · show Act.put _ (some 24) _ = _
                  simp only [Act.put, List.setIfInBounds_toArray, List.set_cons_zero, List.set_cons_succ, i64_w, i32_w]
                  rfl
                refine pure_ (i := 7) (N := some 25) (v := ?_) (a' := ?_) #[true, true, true, true, true, true, true, true, false, true, false, false] rfl rfl (any_of HT_.out (by kernel_rfl)) (fun _ _ _ h => h) (Or.inl ⟨by rfl, ?_⟩) ?_ ?_
                rotate_left
                · intro w'
                  go_simp
                  (first | with_reducible rfl | (rw [if_neg (by first | omega | (simp only [ByteArray.size_append] at *; omega) | (have hl_ : ∀ l_ : List UInt8, (⟨l_.toArray⟩ : ByteArray).size = l_.length := (fun l_ => by show l_.toArray.size = _; simp); simp only [ByteArray.size_append, hl_, List.length_cons, List.length_nil] at *; omega))]))
                rotate_left
                · simp only [Act.put, List.setIfInBounds_toArray, List.set_cons_zero, List.set_cons_succ, i64_w, i32_w]
                  rfl
                refine pure_ (i := 8) (N := some 26) (v := ?_) (a' := ?_) #[true, true, true, true, true, true, true, true, true, true, false, false] rfl rfl (any_of HT_.out (by kernel_rfl)) (fun _ _ _ h => h) (Or.inl ⟨by rfl, ?_⟩) ?_ ?_
                rotate_left
                · intro w'
                  go_simp
                  (first | with_reducible rfl | (rw [if_neg (by first | omega | (simp only [ByteArray.size_append] at *; omega) | (have hl_ : ∀ l_ : List UInt8, (⟨l_.toArray⟩ : ByteArray).size = l_.length := (fun l_ => by show l_.toArray.size = _; simp); simp only [ByteArray.size_append, hl_, List.length_cons, List.length_nil] at *; omega))]))
                rotate_left
                · simp only [Act.put, List.setIfInBounds_toArray, List.set_cons_zero, List.set_cons_succ, i64_w, i32_w]
                  rfl
                refine pure_ (i := 10) (N := some 28) (v := ?_) (a' := ?_) #[true, true, true, true, true, true, true, true, true, true, true, false] rfl rfl (any_of HT_.out (by kernel_rfl)) (fun _ _ _ h => h) (Or.inl ⟨by rfl, ?_⟩) ?_ ?_
                rotate_left
                · intro w'
                  go_simp
                  (first | with_reducible rfl | (rw [if_neg (by first | omega | (simp only [ByteArray.size_append] at *; omega) | (have hl_ : ∀ l_ : List UInt8, (⟨l_.toArray⟩ : ByteArray).size = l_.length := (fun l_ => by show l_.toArray.size = _; simp); simp only [ByteArray.size_append, hl_, List.length_cons, List.length_nil] at *; omega))]))
                rotate_left
                · simp only [Act.put, List.setIfInBounds_toArray, List.set_cons_zero, List.set_cons_succ, i64_w, i32_w]
                  rfl
                refine pure_ (i := 11) (N := some 3) (v := ?_) (a' := ?_) #[true, true, true, true, true, true, true, true, true, true, true, true] rfl rfl (any_of HT_.out (by kernel_rfl)) (fun _ _ _ h => h) (Or.inl ⟨by rfl, ?_⟩) ?_ ?_
                rotate_left
                · intro w'
                  go_simp
                  (first | with_reducible rfl | (rw [if_neg (by first | omega | (simp only [ByteArray.size_append] at *; omega) | (have hl_ : ∀ l_ : List UInt8, (⟨l_.toArray⟩ : ByteArray).size = l_.length := (fun l_ => by show l_.toArray.size = _; simp); simp only [ByteArray.size_append, hl_, List.length_cons, List.length_nil] at *; omega))]))
                rotate_left
                · simp only [Act.put, List.setIfInBounds_toArray, List.set_cons_zero, List.set_cons_succ, i64_w, i32_w]
                  rfl
                refine done_ (done_of HT_.out (by kernel_rfl)) ?_
                try go_wp2
                go_meet
                case rel => exact ⟨_, ((((t195 ++ (⟨#[32, 112, 101, 114, 32]⟩ : ByteArray)) ++ t196) ++ (⟨#[32, 110, 101, 97, 114, 32]⟩ : ByteArray)) ++ t193), (by first | rfl | (simp; done) | (simp [*]; done)), H', ⟨by first | omega | exact Nat.le_refl _⟩, ⟨by (with_reducible repeat (first | refine blk_drewN ?_ _ | refine blk_drew ?_ | refine blk_alloc ?_ _)); exact BK191.out⟩, ⟨by repeat (first | (with_reducible first | exact HB.out | apply below_alloc | apply pw_below_drewN | apply below_drew1 | refine below_set ?_ GE191.out) | exact HB.out)⟩⟩
              · rw [if_neg c16] at H
                exact absurd H (by simp)
            · rw [if_neg c15] at H
              exact absurd H (by simp)
          · rw [if_neg c14] at H
            exact absurd H (by simp)
        · rw [if_neg c12] at H
          exact absurd H (by simp)
    case rest =>
      clear HC4
      try clear c1
      try clear p2
      try clear c3
      try clear c3b0
      try clear c3b1
      try clear c4
      try clear c9
      try clear c12
      try clear c12b0
      try clear c12b1
      try clear c12b2
      try clear c14
      try clear c14b0
      try clear c14b1
      try clear c14b2
      try clear c15
      try clear c15b0
      try clear c15b1
      try clear c15b2
      try clear c16
      try clear c16b0
      try clear c16b1
      try clear c16b2
      try clear c18
      try clear hcz17_0
      try clear hcz17_1
      try clear hcz17_2
      try clear hcz17_3
      try clear hcz17_4
      try clear hcz17_5
      try clear hcz6_0
      try clear hcz6_1
      try clear hcz6_2
      try clear hcz6_3
      try clear hcz6_4
      try clear hcz6_5
      try clear hcz8_0
      try clear hcz8_1
      try clear hcz8_2
      try clear hcz8_3
      try clear hcz8_4
      try clear hcz8_5
      try clear hfz17_0
      try clear hfz17_1
      try clear hfz17_2
      try clear hfz17_3
      try clear hfz17_4
      try clear hfz17_5
      try clear hfz6_0
      try clear hfz6_1
      try clear hfz6_2
      try clear hfz6_3
      try clear hfz6_4
      try clear hfz6_5
      try clear hfz8_0
      try clear hfz8_1
      try clear hfz8_2
      try clear hfz8_3
      try clear hfz8_4
      try clear hfz8_5
      obtain ⟨kq, x3_3, rfl, HA, HJ3, BK191, HB⟩ := hcut
      cases kq with
      | zero => exact absurd HA.out (by simp [rule_Text.j0])
      | succ kj3 =>
        have H := HA.out
        clear HA
        simp only [rule_Text.j0] at H
        by_cases c22 : a0_4 = true
        · subst c22
          have H1 : (if x3_3.size + 7 ≤ 9223372036854775807 then (if a0_0.toList = ([] : List UInt8) then (some (x3_3 ++ (⟨#[32, 115, 104, 97, 100, 111, 119]⟩ : ByteArray))) else ((desc_Escape.f a0_0).bind fun t197 => (if 1 + t197.size ≤ 9223372036854775807 then (if x3_3.size + 7 + 1 + t197.size ≤ 9223372036854775807 then (some ((x3_3 ++ (⟨#[32, 115, 104, 97, 100, 111, 119]⟩ : ByteArray)) ++ ((⟨#[32]⟩ : ByteArray) ++ t197))) else (none)) else (none)))) else (none)) = some r := by rw [if_pos rfl] at H; exact H
          clear H
          have H := H1
          clear H1
          by_cases c23 : x3_3.size + 7 ≤ 9223372036854775807
          · rw [if_pos c23] at H
            have c23b0 := eq_true c23
            have c23b1 : decide (x3_3.size + 7 ≤ 9223372036854775807) = true := decide_eq_true c23
            try have c23b2 : (9223372036854775807 < x3_3.size + 7) = False := eq_false (Nat.not_lt.2 c23)
            by_cases c24 : a0_0.toList = ([] : List UInt8)
            · rw [if_pos c24] at H
              have c24b0 : (a0_0.toList == ([] : List UInt8)) = true := beq_iff_eq.mpr c24
              have c24b1 : (a0_0.toList != ([] : List UInt8)) = false := bne_eq_false_iff_eq.mpr c24
              clear c24
              obtain rfl := Option.some.inj H
              obtain ⟨hcz25_0, hcz25_1, hcz25_2, hcz25_3, hcz25_4, hcz25_5, hfz25_0, hfz25_1, hfz25_2, hfz25_3, hfz25_4, hfz25_5⟩ := blk_facts6_x6 BK191.out
              go_wp2
              go_ret
              exact ⟨by first | rfl | (simp [errW_none, errW_some] <;> rfl) | (simp [*, errW_none, errW_some] <;> rfl), by repeat (first | (with_reducible first | exact HB.out | apply below_alloc | apply pw_below_drewN | apply below_drew1 | refine below_set ?_ GE191.out) | exact HB.out)⟩
            · rw [if_neg c24] at H
              have c24b0 : (a0_0.toList == ([] : List UInt8)) = false := beq_eq_false_iff_ne.mpr c24
              have c24b1 : (a0_0.toList != ([] : List UInt8)) = true := bne_iff_ne.mpr c24
              replace H := Option.bind_eq_some_iff.mp H
              obtain ⟨t197, A260, H⟩ := H
              replace H : (if 1 + t197.size ≤ 9223372036854775807 then (if x3_3.size + 7 + 1 + t197.size ≤ 9223372036854775807 then (some ((x3_3 ++ (⟨#[32, 115, 104, 97, 100, 111, 119]⟩ : ByteArray)) ++ ((⟨#[32]⟩ : ByteArray) ++ t197))) else (none)) else (none)) = some r := H
              have A26 := Aside0.mk A260
              clear A260
              by_cases c27 : 1 + t197.size ≤ 9223372036854775807
              · rw [if_pos c27] at H
                have c27b0 := eq_true c27
                have c27b1 : decide (1 + t197.size ≤ 9223372036854775807) = true := decide_eq_true c27
                try have c27b2 : (9223372036854775807 < 1 + t197.size) = False := eq_false (Nat.not_lt.2 c27)
                by_cases c28 : x3_3.size + 7 + 1 + t197.size ≤ 9223372036854775807
                · rw [if_pos c28] at H
                  have c28b0 := eq_true c28
                  have c28b1 : decide (x3_3.size + 7 + 1 + t197.size ≤ 9223372036854775807) = true := decide_eq_true c28
                  try have c28b2 : (9223372036854775807 < x3_3.size + 7 + 1 + t197.size) = False := eq_false (Nat.not_lt.2 c28)
                  obtain rfl := Option.some.inj H
                  obtain ⟨hcz29_0, hcz29_1, hcz29_2, hcz29_3, hcz29_4, hcz29_5, hfz29_0, hfz29_1, hfz29_2, hfz29_3, hfz29_4, hfz29_5⟩ := blk_facts6_x6 BK191.out
                  go_wp2_with (first | ((with_reducible refine gate_callee (f := 43) rfl ?_); refine goesL_ (some 39) rfl rfl Try.func43 (by kernel_rfl) rfl #[.string a0_0] rfl (by (try simp only [List.map_toArray, List.map_cons, List.map_nil]); first | done | rfl | (simp only [List.length_drop, List.length_take]; rfl)) ?_; (with_reducible refine (desc_Escape.calls a0_0 t197 _ A26.out).mono ?_); rintro e w30 ⟨rfl, hb⟩; refine ⟨_, rfl, ?_⟩; have n0_ := Aside0.mk (blk_below (g := gb191) (o := .cells #[.string a0_0, .int .i64 a0_1, .int .i64 a0_2, .float .f64 a0_3, .bool true, .bool a0_5] 24 (0, 0)) (by (with_reducible repeat (first | refine blk_drewN ?_ _ | refine blk_drew ?_ | refine blk_alloc ?_ _)); exact BK191.out) hb); have n1_ := Aside0.mk (below_step (by repeat (first | (with_reducible first | exact HB.out | apply below_alloc | apply pw_below_drewN | apply below_drew1 | refine below_set ?_ GE191.out) | exact HB.out)) hb); clear BK191; clear HB; have BK191 := n0_; have HB := n1_; clear n0_ n1_; (try clear hb); (try clear hb2); (try clear hk); (try clear hi)))
                  go_ret
                  exact ⟨by first | rfl | (simp [errW_none, errW_some] <;> rfl) | (simp [*, errW_none, errW_some] <;> rfl), by repeat (first | (with_reducible first | exact HB.out | apply below_alloc | apply pw_below_drewN | apply below_drew1 | refine below_set ?_ GE191.out) | exact HB.out)⟩
                · rw [if_neg c28] at H
                  exact absurd H (by simp)
              · rw [if_neg c27] at H
                exact absurd H (by simp)
          · rw [if_neg c23] at H
            exact absurd H (by simp)
        · replace c22 := Bool.eq_false_iff.mpr c22
          subst c22
          have H1 : (if a0_0.toList = ([] : List UInt8) then (some x3_3) else ((desc_Escape.f a0_0).bind fun t198 => (if 1 + t198.size ≤ 9223372036854775807 then (if x3_3.size + 1 + t198.size ≤ 9223372036854775807 then (some (x3_3 ++ ((⟨#[32]⟩ : ByteArray) ++ t198))) else (none)) else (none)))) = some r := by rw [if_neg (show ¬ (false = true) by decide)] at H; exact H
          clear H
          have H := H1
          clear H1
          by_cases c31 : a0_0.toList = ([] : List UInt8)
          · rw [if_pos c31] at H
            have c31b0 : (a0_0.toList == ([] : List UInt8)) = true := beq_iff_eq.mpr c31
            have c31b1 : (a0_0.toList != ([] : List UInt8)) = false := bne_eq_false_iff_eq.mpr c31
            clear c31
            obtain rfl := Option.some.inj H
            obtain ⟨hcz32_0, hcz32_1, hcz32_2, hcz32_3, hcz32_4, hcz32_5, hfz32_0, hfz32_1, hfz32_2, hfz32_3, hfz32_4, hfz32_5⟩ := blk_facts6_x6 BK191.out
            go_wp2
            go_ret
            exact ⟨by first | rfl | (simp [errW_none, errW_some] <;> rfl) | (simp [*, errW_none, errW_some] <;> rfl), by repeat (first | (with_reducible first | exact HB.out | apply below_alloc | apply pw_below_drewN | apply below_drew1 | refine below_set ?_ GE191.out) | exact HB.out)⟩
          · rw [if_neg c31] at H
            have c31b0 : (a0_0.toList == ([] : List UInt8)) = false := beq_eq_false_iff_ne.mpr c31
            have c31b1 : (a0_0.toList != ([] : List UInt8)) = true := bne_iff_ne.mpr c31
            replace H := Option.bind_eq_some_iff.mp H
            obtain ⟨t198, A330, H⟩ := H
            replace H : (if 1 + t198.size ≤ 9223372036854775807 then (if x3_3.size + 1 + t198.size ≤ 9223372036854775807 then (some (x3_3 ++ ((⟨#[32]⟩ : ByteArray) ++ t198))) else (none)) else (none)) = some r := H
            have A33 := Aside0.mk A330
            clear A330
            by_cases c34 : 1 + t198.size ≤ 9223372036854775807
            · rw [if_pos c34] at H
              have c34b0 := eq_true c34
              have c34b1 : decide (1 + t198.size ≤ 9223372036854775807) = true := decide_eq_true c34
              try have c34b2 : (9223372036854775807 < 1 + t198.size) = False := eq_false (Nat.not_lt.2 c34)
              by_cases c35 : x3_3.size + 1 + t198.size ≤ 9223372036854775807
              · rw [if_pos c35] at H
                have c35b0 := eq_true c35
                have c35b1 : decide (x3_3.size + 1 + t198.size ≤ 9223372036854775807) = true := decide_eq_true c35
                try have c35b2 : (9223372036854775807 < x3_3.size + 1 + t198.size) = False := eq_false (Nat.not_lt.2 c35)
                obtain rfl := Option.some.inj H
                obtain ⟨hcz36_0, hcz36_1, hcz36_2, hcz36_3, hcz36_4, hcz36_5, hfz36_0, hfz36_1, hfz36_2, hfz36_3, hfz36_4, hfz36_5⟩ := blk_facts6_x6 BK191.out
                go_wp2_with (first | ((with_reducible refine gate_callee (f := 43) rfl ?_); refine goesL_ (some 39) rfl rfl Try.func43 (by kernel_rfl) rfl #[.string a0_0] rfl (by (try simp only [List.map_toArray, List.map_cons, List.map_nil]); first | done | rfl | (simp only [List.length_drop, List.length_take]; rfl)) ?_; (with_reducible refine (desc_Escape.calls a0_0 t198 _ A33.out).mono ?_); rintro e w37 ⟨rfl, hb⟩; refine ⟨_, rfl, ?_⟩; have n0_ := Aside0.mk (blk_below (g := gb191) (o := .cells #[.string a0_0, .int .i64 a0_1, .int .i64 a0_2, .float .f64 a0_3, .bool false, .bool a0_5] 24 (0, 0)) (by (with_reducible repeat (first | refine blk_drewN ?_ _ | refine blk_drew ?_ | refine blk_alloc ?_ _)); exact BK191.out) hb); have n1_ := Aside0.mk (below_step (by repeat (first | (with_reducible first | exact HB.out | apply below_alloc | apply pw_below_drewN | apply below_drew1 | refine below_set ?_ GE191.out) | exact HB.out)) hb); clear BK191; clear HB; have BK191 := n0_; have HB := n1_; clear n0_ n1_; (try clear hb); (try clear hb2); (try clear hk); (try clear hi)))
                go_ret
                exact ⟨by first | rfl | (simp [errW_none, errW_some] <;> rfl) | (simp [*, errW_none, errW_some] <;> rfl), by repeat (first | (with_reducible first | exact HB.out | apply below_alloc | apply pw_below_drewN | apply below_drew1 | refine below_set ?_ GE191.out) | exact HB.out)⟩
              · rw [if_neg c35] at H
                exact absurd H (by simp)
            · rw [if_neg c34] at H
              exact absurd H (by simp)
  · rw [if_neg c3] at H
    have c3b0 : (t192 == 0) = false := beq_eq_false_iff_ne.mpr c3
    have c3b1 : (t192 != 0) = true := bne_iff_ne.mpr c3
    obtain rfl := Option.some.inj H
    go_enter Try.func18, Try.ntmps18
    go_wp2_with (first | ((with_reducible refine gate_dst (N := 1) rfl ?_); refine box_event ?hg (N := 1) ?hd (cs := #[.string a0_0, .int .i64 a0_1, .int .i64 a0_2, .float .f64 a0_3, .bool a0_4, .bool a0_5]) (t := 24) ?hr ?_; (case hd => rfl); (case hg => rfl); (case hr => first | (go_simp; done) | (go_simp; rfl)); intro gb191 hg w38 hbox hb; have n0_ := Aside0.mk (below_step (by repeat (first | (with_reducible first | exact HB.out | apply below_alloc | apply pw_below_drewN | apply below_drew1) | exact HB.out)) hb); have n1_ := Aside0.mk (hbox); have n2_ := Aside0.mk ((by rw [hg]; exact (below_size (by repeat (first | (with_reducible first | exact HB.out | apply below_alloc | apply pw_below_drewN | apply below_drew1) | exact HB.out))) : w.heap.size ≤ gb191)); have n3_ := Aside0.mk ((by rw [hg]; exact (below_size (by repeat (first | (with_reducible first | exact HB.out | apply below_alloc | apply pw_below_drewN | apply below_drew1) | exact HB.out))) : w.heap.size ≤ gb191)); clear HB; have HB := n0_; have BK191 := n1_; have GW191 := n2_; have GE191 := n3_; clear n0_ n1_ n2_ n3_; clear hb hbox hg; obtain ⟨hcz39_0, hcz39_1, hcz39_2, hcz39_3, hcz39_4, hcz39_5, hfz39_0, hfz39_1, hfz39_2, hfz39_3, hfz39_4, hfz39_5⟩ := blk_facts6_x6 BK191.out) | ((with_reducible refine gate_callee (f := 14) rfl ?_); refine goesL_ (some 7) rfl rfl Try.func14 (by kernel_rfl) rfl #[.agg #[.string a0_0, .int .i64 a0_1, .int .i64 a0_2, .float .f64 a0_3, .bool a0_4, .bool a0_5]] rfl (by (try simp only [List.map_toArray, List.map_cons, List.map_nil]); first | done | rfl | (simp only [List.length_drop, List.length_take]; rfl)) ?_; (with_reducible refine (rule_Check.calls k a0_0 a0_1 a0_2 a0_3 a0_4 a0_5 t192 _ A2.out).mono ?_); rintro e w40 ⟨rfl, hb⟩; refine ⟨_, rfl, ?_⟩; have n0_ := Aside0.mk (blk_below (g := gb191) (o := .cells #[.string a0_0, .int .i64 a0_1, .int .i64 a0_2, .float .f64 a0_3, .bool a0_4, .bool a0_5] 24 (0, 0)) (by (with_reducible repeat (first | refine blk_drewN ?_ _ | refine blk_drew ?_ | refine blk_alloc ?_ _)); exact BK191.out) hb); have n1_ := Aside0.mk (below_step (by repeat (first | (with_reducible first | exact HB.out | apply below_alloc | apply pw_below_drewN | apply below_drew1 | refine below_set ?_ GE191.out) | exact HB.out)) hb); clear BK191; clear HB; have BK191 := n0_; have HB := n1_; clear n0_ n1_; (try clear hb); (try clear hb2); (try clear hk); (try clear hi)))
    go_ret
    exact ⟨by first | rfl | (simp [errW_none, errW_some] <;> rfl) | (simp [*, errW_none, errW_some] <;> rfl), by repeat (first | (with_reducible first | exact HB.out | apply below_alloc | apply pw_below_drewN | apply below_drew1 | refine below_set ?_ GE191.out) | exact HB.out)⟩

end Go.Proofs.Ytofebccpghkmgaa.PRuleChecks
