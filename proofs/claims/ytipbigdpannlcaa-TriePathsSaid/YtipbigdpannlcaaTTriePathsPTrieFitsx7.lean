/- What the law TriePaths uses, thinned: printed by shake2.py. -/
import Derived.Test.YtipbigdpannlcaaTTriePathsPTrieFitsx0
import Derived.Test.YtipbigdpannlcaaTTriePathsPTrieFitsx6
namespace Go.Proofs.Ytipbigdpannlcaa.PTrieFits
open Go.RowKit Go.Proofs.YtipbigdpannlcaaW.PrintWords Go.Proofs.YtipbigdpannlcaaW.PrintLast Go.Proofs.YtipbigdpannlcaaW.PrintMore
attribute [local go_sem] max2_int min2_int max_two min_two max_three min_three max_four min_four
set_option linter.unusedVariables false
set_option linter.unusedSimpArgs false
def strings_IndexByte.f (a0 : ByteArray) (a1 : Int) : Option (Int) := some (Lib.indexByte a0.data.toList a1.toNat.toUInt8)
theorem strings_IndexByte.calls (a0 : ByteArray) (a1 : Int) (r : Int) (w : World) (h : strings_IndexByte.f a0 a1 = some r) :
    Calls Try.prog 47 #[.string a0, .int .u8 a1] w fun e w' => e = .returned (.int .i64 r) ∧ Drawn0 w w' := by
  obtain rfl := Option.some.inj h
  exact (Try.strings_IndexByte a0 a1 w).mono (by rintro e w' ⟨rfl, rfl⟩; exact ⟨rfl, Drawn0.refl _⟩)
def desc_itself.self (c : Int) : Bool := decide ((97 ≤ c ∧ c ≤ 122) ∨ (65 ≤ c ∧ c ≤ 90) ∨ (48 ≤ c ∧ c ≤ 57) ∨ 0 ≤ Lib.indexByte [45, 95, 46, 47, 58] c.toNat.toUInt8)
def desc_itself.f (a0 : Int) : Option (Bool) := some (desc_itself.self a0)
set_option maxRecDepth 100000 in
theorem desc_itself.calls (c : Int) (r : Bool) (w : World) (h : desc_itself.f c = some r) :
    Calls Try.prog 37 #[.int .u8 c] w fun e w' => e = .returned (.bool r) ∧ Drawn0 w w' := by
  obtain rfl := Option.some.inj h
  clear h
  by_cases h1 : 97 ≤ c
  · have d1 : decide (97 ≤ c) = true := decide_eq_true h1
    by_cases h2 : c ≤ 122
    · have d2 : decide (c ≤ 122) = true := decide_eq_true h2
      have hs := Aside0.mk (show desc_itself.self c = true from decide_eq_true (.inl ⟨h1, h2⟩))
      clear h1 h2
      go_enter Try.func37, Try.ntmps37
      go_wp2
      go_ret
      exact ⟨by rw [hs.out]; first | rfl | simp, Drawn0.refl _⟩
    · have d2 : decide (c ≤ 122) = false := decide_eq_false h2
      have d3 : decide (65 ≤ c) = true := decide_eq_true (by omega)
      have d4 : decide (c ≤ 90) = false := decide_eq_false (by omega)
      have d5 : decide (48 ≤ c) = true := decide_eq_true (by omega)
      have d6 : decide (c ≤ 57) = false := decide_eq_false (by omega)
      have hs := Aside0.mk (show desc_itself.self c = decide (0 ≤ Lib.indexByte [45, 95, 46, 47, 58] c.toNat.toUInt8) from by unfold desc_itself.self; rw [decide_eq_decide]; omega)
      clear h1 h2
      go_enter Try.func37, Try.ntmps37
      go_wp2_with fail
      (with_reducible refine (strings_IndexByte.calls _ c _ _ rfl).mono ?_); rintro e w' ⟨rfl, ⟨nd, rfl⟩⟩
      go_wp2
      go_ret
      exact ⟨by rw [hs.out]; rfl, by repeat (first | exact Drawn0.refl _ | apply Drawn0.step)⟩
  · have d1 : decide (97 ≤ c) = false := decide_eq_false h1
    by_cases h3 : 65 ≤ c
    · have d3 : decide (65 ≤ c) = true := decide_eq_true h3
      by_cases h4 : c ≤ 90
      · have d4 : decide (c ≤ 90) = true := decide_eq_true h4
        have hs := Aside0.mk (show desc_itself.self c = true from decide_eq_true (.inr (.inl ⟨h3, h4⟩)))
        clear h1 h3 h4
        go_enter Try.func37, Try.ntmps37
        go_wp2
        go_ret
        exact ⟨by rw [hs.out]; first | rfl | simp, Drawn0.refl _⟩
      · have d4 : decide (c ≤ 90) = false := decide_eq_false h4
        have d5 : decide (48 ≤ c) = true := decide_eq_true (by omega)
        have d6 : decide (c ≤ 57) = false := decide_eq_false (by omega)
        have hs := Aside0.mk (show desc_itself.self c = decide (0 ≤ Lib.indexByte [45, 95, 46, 47, 58] c.toNat.toUInt8) from by unfold desc_itself.self; rw [decide_eq_decide]; omega)
        clear h1 h3 h4
        go_enter Try.func37, Try.ntmps37
        go_wp2_with fail
        (with_reducible refine (strings_IndexByte.calls _ c _ _ rfl).mono ?_); rintro e w' ⟨rfl, ⟨nd, rfl⟩⟩
        go_wp2
        go_ret
        exact ⟨by rw [hs.out]; rfl, by repeat (first | exact Drawn0.refl _ | apply Drawn0.step)⟩
    · have d3 : decide (65 ≤ c) = false := decide_eq_false h3
      by_cases h5 : 48 ≤ c
      · have d5 : decide (48 ≤ c) = true := decide_eq_true h5
        by_cases h6 : c ≤ 57
        · have d6 : decide (c ≤ 57) = true := decide_eq_true h6
          have hs := Aside0.mk (show desc_itself.self c = true from decide_eq_true (.inr (.inr (.inl ⟨h5, h6⟩))))
          clear h1 h3 h5 h6
          go_enter Try.func37, Try.ntmps37
          go_wp2
          go_ret
          exact ⟨by rw [hs.out]; first | rfl | simp, Drawn0.refl _⟩
        · have d6 : decide (c ≤ 57) = false := decide_eq_false h6
          have hs := Aside0.mk (show desc_itself.self c = decide (0 ≤ Lib.indexByte [45, 95, 46, 47, 58] c.toNat.toUInt8) from by unfold desc_itself.self; rw [decide_eq_decide]; omega)
          clear h1 h3 h5 h6
          go_enter Try.func37, Try.ntmps37
          go_wp2_with fail
          (with_reducible refine (strings_IndexByte.calls _ c _ _ rfl).mono ?_); rintro e w' ⟨rfl, ⟨nd, rfl⟩⟩
          go_wp2
          go_ret
          exact ⟨by rw [hs.out]; rfl, by repeat (first | exact Drawn0.refl _ | apply Drawn0.step)⟩
      · have d5 : decide (48 ≤ c) = false := decide_eq_false h5
        have hs := Aside0.mk (show desc_itself.self c = decide (0 ≤ Lib.indexByte [45, 95, 46, 47, 58] c.toNat.toUInt8) from by unfold desc_itself.self; rw [decide_eq_decide]; omega)
        clear h1 h3 h5
        go_enter Try.func37, Try.ntmps37
        go_wp2_with fail
        (with_reducible refine (strings_IndexByte.calls _ c _ _ rfl).mono ?_); rintro e w' ⟨rfl, ⟨nd, rfl⟩⟩
        go_wp2
        go_ret
        exact ⟨by rw [hs.out]; rfl, by repeat (first | exact Drawn0.refl _ | apply Drawn0.step)⟩
def desc_Escape.HEX : List UInt8 := [48, 49, 50, 51, 52, 53, 54, 55, 56, 57, 65, 66, 67, 68, 69, 70]
def desc_Escape.one (c : UInt8) : List UInt8 := if desc_itself.self (c.toNat : Int) = true then [c] else [37, desc_Escape.HEX.getD (c.toNat / 16) 0, desc_Escape.HEX.getD (c.toNat % 16) 0]
theorem desc_Escape.hexcut : ∀ n : Fin 16, (⟨#[48, 49, 50, 51, 52, 53, 54, 55, 56, 57, 65, 66, 67, 68, 69, 70]⟩ : ByteArray).extract n.val (n.val + 1) = ⟨#[desc_Escape.HEX.getD n.val 0]⟩ := by decide +kernel
def desc_Escape.all (l : List UInt8) : List UInt8 := l.flatMap desc_Escape.one
theorem desc_Escape.one_len (c : UInt8) : (desc_Escape.one c).length ≤ 3 := by unfold desc_Escape.one; split <;> simp
theorem desc_Escape.all_snoc (l : List UInt8) (c : UInt8) : desc_Escape.all (l ++ [c]) = desc_Escape.all l ++ desc_Escape.one c := by unfold desc_Escape.all; simp
theorem desc_Escape.all_len (l : List UInt8) : (desc_Escape.all l).length ≤ 3 * l.length := by
  induction l with
  | nil => simp [desc_Escape.all]
  | cons a l ih =>
    have := desc_Escape.one_len a
    have e : desc_Escape.all (a :: l) = desc_Escape.one a ++ desc_Escape.all l := by unfold desc_Escape.all; simp
    rw [e, List.length_append, List.length_cons]; omega
theorem desc_Escape.take_snoc (s : ByteArray) (k : Nat) (h : k < s.size) : s.data.toList.take (k + 1) = s.data.toList.take k ++ [s[k]] := by
  rw [List.take_succ_eq_append_getElem (by simpa using h)]; rfl
theorem desc_Escape.cells_one (l : List UInt8) (c : UInt8) : Lib.byteCells l ++ [.int .u8 (c.toNat : Int)] = Lib.byteCells (l ++ [c]) := by unfold Lib.byteCells; simp
theorem desc_Escape.cells_str (l : List UInt8) (s : ByteArray) : Lib.byteCells l ++ Lib.strCells s = Lib.byteCells (l ++ s.data.toList) := by unfold Lib.byteCells Lib.strCells; simp
def desc_Escape.f (a0 : ByteArray) : Option (ByteArray) := if a0.size ≤ 1099511627776 then some ⟨(desc_Escape.all a0.data.toList).toArray⟩ else none
set_option maxHeartbeats 1000000 in
set_option maxRecDepth 100000 in
theorem desc_Escape.calls (s : ByteArray) (r : ByteArray) (w : World) (h : desc_Escape.f s = some r) :
    Calls Try.prog 27 #[.string s] w fun e w' => e = .returned (.string r) ∧ Below w.heap.size w w' := by
  unfold desc_Escape.f at h
  split at h
  · rename_i hs
    obtain rfl := Option.some.inj h
    clear h
    have hb0 := Aside0.mk (Lib.fresh_isBuilder 85 5 w)
    go_enter Try.func27, Try.ntmps27
    go_wp2
    go_loopw [8] (fun v8 wr => ∃ k : Nat, v8 = .int .i64 k ∧ k ≤ s.size ∧ Aside0 (Lib.IsBuilder 85 5 w.heap.size w.heap.size (Lib.byteCells (desc_Escape.all (s.data.toList.take k))) wr) ∧ Aside0 (Below w.heap.size w wr)) (fun v8 _ => s.size - (intOf v8).toNat)
    case atStart => exact ⟨0, rfl, Nat.zero_le _, hb0, ⟨(Below.refl _ _).alloc (Nat.le_refl _) _⟩⟩
    case round =>
      obtain ⟨k, rfl, hk, HB, HW⟩ := hrel
      clear hb0
      by_cases hlt : k < s.size
      · have HT := Aside0.mk (desc_Escape.take_snoc s k hlt)
        have hl := desc_Escape.all_len (s.data.toList.take k)
        have hl2 : (s.data.toList.take k).length ≤ k := List.length_take_le _ _
        have HL := Aside0.mk (show (Lib.byteCells (desc_Escape.all (s.data.toList.take k))).length ≤ 3298534883328 from by unfold Lib.byteCells; rw [List.length_map]; omega)
        clear hl hl2
        cases hc : desc_itself.self (s[k].toNat : Int) with
        | true =>
          have HC := Aside0.mk hc
          clear hc
          go_wp2_with fail
          (with_reducible refine (desc_itself.calls _ true _ (by unfold desc_itself.f; rw [HC.out])).mono ?_); rintro e w' ⟨rfl, ⟨nd, rfl⟩⟩
          go_wp2_with fail
          refine (Try.bld_WriteByte w.heap.size w.heap.size _ _ _ (show Lib.IsBuilder _ _ _ _ _ (wr.drewN nd) from HB.out) (by have := HL.out; omega) (show w.heap.size ≤ (wr.drewN nd).heap.size from HW.out.size)).mono ?_; rintro e w2 ⟨rfl, hb2, hw2⟩
          have HB2 := Aside0.mk hb2
          have HW2 := Aside0.mk (show Below w.heap.size w w2 from HW.out.trans ⟨hw2.os, hw2.tape, hw2.output, hw2.size, fun i hi => hw2.block i hi⟩)
          clear hb2 hw2
          go_wp2
          go_roundw
          case rel =>
            refine ⟨k + 1, by go_num, by omega, ⟨?_⟩, HW2⟩
            rw [HT.out, desc_Escape.all_snoc, show desc_Escape.one s[k] = [s[k]] from by unfold desc_Escape.one; rw [if_pos HC.out], ← desc_Escape.cells_one]
            exact .inr HB2.out
          case measure => simp [intOf]; omega
        | false =>
          have HC := Aside0.mk hc
          clear hc
          go_wp2_with fail
          (with_reducible refine (desc_itself.calls _ false _ (by unfold desc_itself.f; rw [HC.out])).mono ?_); rintro e w' ⟨rfl, ⟨nd, rfl⟩⟩
          have hc1 : s[k].toNat < 256 := s[k].toNat_lt
          have f0 : (0 : Int) ≤ (s[k].toNat : Int) / 16 := by omega
          have f1 : (s[k].toNat : Int) / 16 + 1 ≤ 16 := by omega
          have f1a : (s[k].toNat : Int) / 16 ≤ 16 := by omega
          have f1b : (s[k].toNat : Int) / 16 ≤ (s[k].toNat : Int) / 16 + 1 := by omega
          have f2 : (0 : Int) ≤ (s[k].toNat : Int) % 16 := by omega
          have f3 : (s[k].toNat : Int) % 16 + 1 ≤ 16 := by omega
          have f3b : (s[k].toNat : Int) % 16 ≤ (s[k].toNat : Int) % 16 + 1 := by omega
          have f4 : (0 : Int) ≤ (s[k].toNat : Int) / 16 + 1 := by omega
          have f5 : (0 : Int) ≤ (s[k].toNat : Int) % 16 + 1 := by omega
          have f6 : (s[k].toNat : Int) % 16 ≤ 16 := by omega
          have w1 : IntKind.u8.wrap ((s[k].toNat : Int) / 16 + 1) = (s[k].toNat : Int) / 16 + 1 := by rw [IntKind.wrap_u8]; omega
          have w2 : IntKind.u8.wrap ((s[k].toNat : Int) % 16 + 1) = (s[k].toNat : Int) % 16 + 1 := by rw [IntKind.wrap_u8]; omega
          have w3 : ((s[k].toNat : Int) / 16).toNat = s[k].toNat / 16 := by omega
          have w4 : ((s[k].toNat : Int) / 16 + 1).toNat = s[k].toNat / 16 + 1 := by omega
          have w5 : ((s[k].toNat : Int) % 16).toNat = s[k].toNat % 16 := by omega
          have w6 : ((s[k].toNat : Int) % 16 + 1).toNat = s[k].toNat % 16 + 1 := by omega
          have w7 : Go.bits .and .u8 (s[k].toNat : Int) 15 = (s[k].toNat : Int) % 16 := u8_and15 _ (by omega) (by omega)
          have x1 := desc_Escape.hexcut ⟨s[k].toNat / 16, by omega⟩
          have x2 := desc_Escape.hexcut ⟨s[k].toNat % 16, by omega⟩
          simp only [] at x1 x2
          have HX : Aside0 (desc_Escape.one s[k] = [37, desc_Escape.HEX.getD (s[k].toNat / 16) 0, desc_Escape.HEX.getD (s[k].toNat % 16) 0]) := ⟨by unfold desc_Escape.one; rw [if_neg (by rw [HC.out]; simp)]⟩
          generalize desc_Escape.HEX.getD (s[k].toNat / 16) 0 = b1 at x1 HX
          generalize desc_Escape.HEX.getD (s[k].toNat % 16) 0 = b2 at x2 HX
          have z1 : (⟨#[37]⟩ : ByteArray).size = 1 := rfl
          have z2 : (⟨#[b1]⟩ : ByteArray).size = 1 := rfl
          have z3 : (⟨#[b2]⟩ : ByteArray).size = 1 := rfl
          have z4 : ((⟨#[37]⟩ : ByteArray) ++ ⟨#[b1]⟩) = ⟨#[37, b1]⟩ := rfl
          have z5 : (⟨#[37, b1]⟩ : ByteArray).size = 2 := rfl
          have z5' : (⟨#[37, b1, b2]⟩ : ByteArray).size = 3 := rfl
          have z6 : ((⟨#[37, b1]⟩ : ByteArray) ++ ⟨#[b2]⟩) = ⟨#[37, b1, b2]⟩ := rfl
          go_wp2
          go_still_tail 14, (by kernel_rfl)
          change wpList _ _ _ _ _ ((wr.drewN nd).drew)
          have HB3 := Aside0.mk (show Lib.IsBuilder 85 5 w.heap.size w.heap.size (Lib.byteCells (desc_Escape.all (s.data.toList.take k))) ((wr.drewN nd).drew) from HB.out)
          have HW3 := Aside0.mk (show Below w.heap.size w ((wr.drewN nd).drew) from ⟨HW.out.os, HW.out.tape, HW.out.output, HW.out.size, HW.out.block⟩)
          generalize (wr.drewN nd).drew = wz at HB3 HW3
          clear f0 f1 f1a f1b f2 f3 f3b f4 f5 f6 w1 w2 w3 w4 w5 w6 w7 x1 x2 z1 z2 z3 z4 z6 HB HW
          go_wp2_with fail
          refine (Try.bld_WriteString w.heap.size w.heap.size _ _ _ HB3.out (by have := HL.out; rw [z5']; omega) HW3.out.size).mono ?_; rintro e w2 ⟨rfl, hb2, hw2⟩
          have HB2 := Aside0.mk hb2
          have HW2 := Aside0.mk (show Below w.heap.size w w2 from HW3.out.trans ⟨hw2.os, hw2.tape, hw2.output, hw2.size, fun i hi => hw2.block i hi⟩)
          clear hb2 hw2
          go_wp2
          go_roundw
          case rel =>
            refine ⟨k + 1, by go_num, by omega, ⟨?_⟩, HW2⟩
            rw [HT.out, desc_Escape.all_snoc, HX.out, show ([37, b1, b2] : List UInt8) = (⟨#[37, b1, b2]⟩ : ByteArray).data.toList from rfl, ← desc_Escape.cells_str]
            exact .inr HB2.out
          case measure => simp [intOf]; omega
      · have e : s.data.toList.take k = s.data.toList := List.take_of_length_le (by simp; omega)
        rw [e] at HB
        clear e
        go_wp2_with fail
        refine (Try.bld_String w.heap.size w.heap.size _ _ HB.out HW.out.size).mono ?_; rintro e w2 ⟨rfl, hw2⟩
        have HW2 := Aside0.mk (show Below w.heap.size w w2 from HW.out.trans ⟨hw2.os, hw2.tape, hw2.output, hw2.size, fun i hi => hw2.block i hi⟩)
        clear hw2
        go_wp2
        go_ret
        exact ⟨rfl, HW2.out⟩
  · cases h
end Go.Proofs.Ytipbigdpannlcaa.PTrieFits
