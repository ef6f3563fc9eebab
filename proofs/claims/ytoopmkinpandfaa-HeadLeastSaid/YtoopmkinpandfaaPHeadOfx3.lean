-- WRITTEN BY THIS SESSION'S mprint.py upon the print: some functions are proved by hand
import Derived.Test.YtoopmkinpandfaaPHeadOfx0
import Derived.Test.YtoopmkinpandfaaPHeadOfx2
namespace Go.Proofs.Ytoopmkinpandfaa.PHeadOf
open Go.RowKit Go.Proofs.YtoopmkinpandfaaW.PrintWords Go.Proofs.YtoopmkinpandfaaW.PrintLast Go.Proofs.YtoopmkinpandfaaW.PrintMore
attribute [local go_sem] max2_int min2_int max_two min_two max_three min_three max_four min_four   -- for this text's walks alone
set_option linter.unusedVariables false
set_option linter.unusedSimpArgs false

/-! ### head_Of: function 15 -/
theorem head_Of.text_sim {k z t : Nat} {r : ByteArray} (h : fsim z t) (e : ratio_Text.f k t = some r) : ratio_Text.f k z = some r := by
  rcases h with rfl | ⟨h1, h2⟩
  · exact e
  · unfold ratio_Text.f math_IsNaN.f at *
    rw [fne_nan h1, Option.bind_some, if_pos rfl]
    rw [fne_nan h2, Option.bind_some, if_pos rfl] at e
    exact e
def head_Of.Is (g : Nat) (w : World) : Prop := ∃ cs, w.heap[g]? = some (.cells cs 26 (0, 0))
theorem head_Of.is_mk {g : Nat} {w : World} {cs : Array Value} (h : w.heap[g]? = some (.cells cs 26 (0, 0))) : head_Of.Is g w := ⟨cs, h⟩
theorem head_Of.is_drew {g : Nat} {w : World} (h : head_Of.Is g w) : head_Of.Is g w.drew := h
theorem head_Of.is_drewN {g : Nat} {w : World} (h : head_Of.Is g w) (n : Nat) : head_Of.Is g (w.drewN n) := h
theorem head_Of.is_alloc {g : Nat} {w : World} (h : head_Of.Is g w) (o : Obj) : head_Of.Is g (w.alloc o) := by obtain ⟨cs, h⟩ := h; exact ⟨cs, blk_alloc h o⟩
theorem head_Of.is_set {g g1 i : Nat} {w : World} (h : head_Of.Is g w) (u : Value) : head_Of.Is g (w.setCell ⟨g1, i, none⟩ u) := by
  obtain ⟨cs, h⟩ := h
  by_cases hg : g = g1
  · subst hg; exact ⟨_, blk_put h i u rfl⟩
  · exact ⟨cs, blk_far h hg u⟩
def head_Of.Bd (lo b : Nat) (s : ByteArray) (w : World) : Prop := lo ≤ b ∧ Lib.IsBuilder 61 5 b b (Lib.strCells s) w
theorem head_Of.bd_at {b : Nat} {p : Value} {bs : List Value} {w w1 : World} (h : Lib.BuilderAt 61 5 b b p bs w) (h1 : ∀ k, k = b ∨ (b ≤ k ∧ ∃ cs, w.heap[k]? = some (.cells cs 5 (0, 0))) → w1.heap[k]? = w.heap[k]?) : Lib.BuilderAt 61 5 b b p bs w1 := by
  obtain ⟨h0, v, hb, ho, hn⟩ := h
  exact ⟨h0, v, (h1 b (.inl rfl)).trans hb, own_move ho (fun k hk => h1 k (.inr ⟨own_base ho k hk, own_typed ho k hk⟩)), hn⟩
theorem head_Of.bd_mv {lo b : Nat} {s : ByteArray} {w w1 : World} (h : head_Of.Bd lo b s w) (h1 : ∀ k, k = b ∨ (b ≤ k ∧ ∃ cs, w.heap[k]? = some (.cells cs 5 (0, 0))) → w1.heap[k]? = w.heap[k]?) : head_Of.Bd lo b s w1 :=
  ⟨h.1, h.2.elim (fun x => .inl (head_Of.bd_at x h1)) (fun x => .inr (head_Of.bd_at x h1))⟩
theorem head_Of.bd_lt {lo b : Nat} {s : ByteArray} {w : World} (h : head_Of.Bd lo b s w) : b < w.heap.size := h.2.elim (fun x => x.lt) (fun x => x.lt)
theorem head_Of.bd_below {lo b : Nat} {s : ByteArray} {w w1 : World} (h : head_Of.Bd lo b s w) (hb : Below w.heap.size w w1) : head_Of.Bd lo b s w1 :=
  head_Of.bd_mv h (fun k hk => hb.block k (by rcases hk with rfl | ⟨_, cs, e⟩; exact head_Of.bd_lt h; exact blk_lt e))
theorem head_Of.bd_drew {lo b : Nat} {s : ByteArray} {w : World} (h : head_Of.Bd lo b s w) : head_Of.Bd lo b s w.drew := h
theorem head_Of.bd_drewN {lo b : Nat} {s : ByteArray} {w : World} (h : head_Of.Bd lo b s w) (n : Nat) : head_Of.Bd lo b s (w.drewN n) := h
theorem head_Of.bd_alloc {lo b : Nat} {s : ByteArray} {w : World} (h : head_Of.Bd lo b s w) (o : Obj) : head_Of.Bd lo b s (w.alloc o) :=
  head_Of.bd_mv h (fun k hk => Below.heap_alloc w o k (by rcases hk with rfl | ⟨_, cs, e⟩; exact head_Of.bd_lt h; exact blk_lt e))
theorem head_Of.bd_shape {lo b : Nat} {s : ByteArray} {w : World} (h : head_Of.Bd lo b s w) : ∃ cs, w.heap[b]? = some (.cells cs 61 (0, 0)) := by
  rcases h.2 with ⟨_, v, e, _⟩ | ⟨_, v, e, _⟩ <;> exact ⟨_, e⟩
theorem head_Of.bd_set {lo b g : Nat} {s : ByteArray} {w : World} (h : head_Of.Bd lo b s w) (hg : head_Of.Is g w) (i : Nat) (u : Value) : head_Of.Bd lo b s (w.setCell ⟨g, i, none⟩ u) := by
  obtain ⟨cs, hg⟩ := hg
  refine head_Of.bd_mv h (fun k hk => Below.heap_setCell w _ u k ?_)
  show k ≠ g
  rintro rfl
  rcases hk with rfl | ⟨_, cs2, e⟩
  · obtain ⟨cs2, e⟩ := head_Of.bd_shape h
    rw [hg] at e
    injection e with e; injection e with _ e; revert e; decide
  · rw [hg] at e
    injection e with e; injection e with _ e; revert e; decide
theorem head_Of.bd_new {lo b : Nat} {w : World} (h : w.heap[b]? = some (.cells #[.pointer none, .slice none 0 0] 61 (0, 0))) (hl : lo ≤ b) : head_Of.Bd lo b ⟨#[]⟩ w :=
  ⟨hl, .inl ⟨Nat.le_refl _, .slice none 0 0, h, World.ownsRow_nil _ _ _ _, by simp [Value.ownBlock]⟩⟩
theorem head_Of.str_cells (s : ByteArray) : Lib.strCells s = Lib.byteCells s.data.toList := by unfold Lib.byteCells Lib.strCells; simp
theorem head_Of.str_len (s : ByteArray) : (Lib.strCells s).length = s.size := by rw [head_Of.str_cells]; unfold Lib.byteCells; simp
theorem head_Of.cells_app (s t : ByteArray) : Lib.strCells s ++ Lib.strCells t = Lib.strCells (s ++ t) := by rw [head_Of.str_cells, head_Of.str_cells, head_Of.str_cells]; unfold Lib.byteCells; simp
theorem head_Of.bd_write {lo b : Nat} {s : ByteArray} {w : World} (t : ByteArray) (h : head_Of.Bd lo b s w) (hl : s.size + t.size ≤ 140737488355328) :
    Calls Try.prog 39 #[.pointer (some ⟨b, 0, none⟩), .string t] w fun e w' => e = .returned (.tuple #[.int .i64 t.size, .nilIface]) ∧ head_Of.Bd lo b (s ++ t) w' ∧ Below b w w' := by
  refine (Try.bld_WriteString b b _ t w h.2 (by rw [head_Of.str_len]; exact hl) (Nat.le_of_lt (head_Of.bd_lt h))).mono ?_
  rintro e w' ⟨he, hb, hw⟩
  rw [head_Of.cells_app] at hb
  exact ⟨he, ⟨h.1, .inr hb⟩, hw⟩
theorem head_Of.bd_string {lo b : Nat} {s : ByteArray} {w : World} (h : head_Of.Bd lo b s w) :
    Calls Try.prog 41 #[.pointer (some ⟨b, 0, none⟩)] w fun e w' => e = .returned (.string s) ∧ Below b w w' := by
  have h2 := h.2
  rw [head_Of.str_cells] at h2
  refine (Try.bld_String b b s.data.toList w h2 (Nat.le_of_lt (head_Of.bd_lt h))).mono ?_
  rintro e w' ⟨he, hw⟩
  exact ⟨he, hw⟩
theorem head_Of.blk_b {w w1 : World} {g b : Nat} {o : Obj} (h : w.heap[g]? = some o) (hb : Below b w w1) (hg : g < b) : w1.heap[g]? = some o := (hb.block g hg).trans h
theorem head_Of.below_b {w W w2 : World} {b : Nat} (h : Below w.heap.size w W) (k : Below b W w2) (hl : w.heap.size ≤ b) : Below w.heap.size w w2 :=
  h.trans ⟨k.os, k.tape, k.output, k.size, fun i hi => k.block i (Nat.lt_of_lt_of_le hi hl)⟩
mutual
def head_Of.l0 : Nat → ByteArray → List (S26) → Int → Int → Int → Int → Int → Int → Int → Option ((List (S31)))
  | 0, _, _, _, _, _, _, _, _, _ => none
  | k + 1, x4, x8, x9, x10, x127000, x127001, x127002, x127003, x127004 => if x10 < x9 then (if 0 ≤ x10 then (if x10 < (x8.length : Int) then ((unit_Secs.f ((rd_T26 x8 x10).f2)).bind fun t129 => (if t129 = 0 then (head_Of.l0 k x4 x8 x9 (wrap64 (x10 + 1)) x127000 x127001 x127002 x127003 x127004) else (if x127002 = 0 then (head_Of.j1 k x4 t129 x8 x9 x10 true x127000 x127001 x127002 x127003 x127004 ((rd_T26 x8 x10).f0) ((rd_T26 x8 x10).f1) ((rd_T26 x8 x10).f2) ((rd_T26 x8 x10).f3) ((rd_T26 x8 x10).f4)) else (head_Of.j1 k x4 t129 x8 x9 x10 (decide (((rd_T26 x8 x10).f3) < x127003)) x127000 x127001 x127002 x127003 x127004 ((rd_T26 x8 x10).f0) ((rd_T26 x8 x10).f1) ((rd_T26 x8 x10).f2) ((rd_T26 x8 x10).f3) ((rd_T26 x8 x10).f4))))) else (none)) else (none)) else (if x127002 = 0 then (some ([] : List (S31))) else ((head_digits.f k x127001).bind fun t134 => (if t134.size + x4.size ≤ 9223372036854775807 then ((head_digits.f k x127003).bind fun t135 => ((head_digits.f k x127004).bind fun t136 => ((ratio_Of.f (wrap64 (x127001 - x127003)) x127001).bind fun t137 => ((ratio_Text.f k t137).bind fun t138 => (some (([(⟨(⟨#[120, 45, 114, 97, 116, 101, 108, 105, 109, 105, 116, 45, 108, 105, 109, 105, 116]⟩ : ByteArray), t134 ++ x4⟩ : S31), (⟨(⟨#[120, 45, 114, 97, 116, 101, 108, 105, 109, 105, 116, 45, 114, 101, 109, 97, 105, 110, 105, 110, 103]⟩ : ByteArray), t135⟩ : S31), (⟨(⟨#[120, 45, 114, 97, 116, 101, 108, 105, 109, 105, 116, 45, 114, 101, 115, 101, 116]⟩ : ByteArray), t136⟩ : S31), (⟨(⟨#[120, 45, 114, 97, 116, 101, 108, 105, 109, 105, 116, 45, 108, 111, 97, 100]⟩ : ByteArray), t138⟩ : S31)] : List (S31)))))))) else (none))))
def head_Of.j1 : Nat → ByteArray → Int → List (S26) → Int → Int → Bool → Int → Int → Int → Int → Int → Int → Int → Int → Int → Int → Option ((List (S31)))
  | 0, _, _, _, _, _, _, _, _, _, _, _, _, _, _, _, _ => none
  | k + 1, x4, x7, x8, x9, x10, x28, x127000, x127001, x127002, x127003, x127004, x129000, x129001, x129002, x129003, x129004 => if x28 = true then ((head_digits.f k x129001).bind fun t130 => (if 2 + t130.size ≤ 9223372036854775807 then (if 2 + t130.size + 3 ≤ 9223372036854775807 then ((head_digits.f k x7).bind fun t131 => (if 2 + t130.size + 3 + t131.size ≤ 9223372036854775807 then (if x4.size + 2 + t130.size + 3 + t131.size ≤ 140737488355328 then (head_Of.l0 k (x4 ++ ((((⟨#[44, 32]⟩ : ByteArray) ++ t130) ++ (⟨#[59, 119, 61]⟩ : ByteArray)) ++ t131)) x8 x9 (wrap64 (x10 + 1)) x129000 x129001 x129002 x129003 x129004) else (none)) else (none))) else (none)) else (none))) else ((head_digits.f k x129001).bind fun t132 => (if 2 + t132.size ≤ 9223372036854775807 then (if 2 + t132.size + 3 ≤ 9223372036854775807 then ((head_digits.f k x7).bind fun t133 => (if 2 + t132.size + 3 + t133.size ≤ 9223372036854775807 then (if x4.size + 2 + t132.size + 3 + t133.size ≤ 140737488355328 then (head_Of.l0 k (x4 ++ ((((⟨#[44, 32]⟩ : ByteArray) ++ t132) ++ (⟨#[59, 119, 61]⟩ : ByteArray)) ++ t133)) x8 x9 (wrap64 (x10 + 1)) x127000 x127001 x127002 x127003 x127004) else (none)) else (none))) else (none)) else (none)))
end
def head_Of.f (k : Nat) (l0 : List (S26)) : Option ((List (S31))) := head_Of.l0 k (⟨#[]⟩ : ByteArray) l0 (l0.length : Int) 0 0 0 0 0 0
theorem head_Of.mono_l : ∀ k, (∀ y0 y1 y2 y3 y4 y5 y6 y7 y8, LeO (head_Of.l0 k y0 y1 y2 y3 y4 y5 y6 y7 y8) (head_Of.l0 (k + 1) y0 y1 y2 y3 y4 y5 y6 y7 y8)) ∧ (∀ y0 y1 y2 y3 y4 y5 y6 y7 y8 y9 y10 y11 y12 y13 y14 y15, LeO (head_Of.j1 k y0 y1 y2 y3 y4 y5 y6 y7 y8 y9 y10 y11 y12 y13 y14 y15) (head_Of.j1 (k + 1) y0 y1 y2 y3 y4 y5 y6 y7 y8 y9 y10 y11 y12 y13 y14 y15))
  | 0 => ⟨fun _ _ _ _ _ _ _ _ _ r h => by simp [head_Of.l0] at h, fun _ _ _ _ _ _ _ _ _ _ _ _ _ _ _ _ r h => by simp [head_Of.j1] at h⟩
  | k + 1 => by
    obtain ⟨ih0, ih1⟩ := head_Of.mono_l k
    refine ⟨?_, ?_⟩
    · intro y0 y1 y2 y3 y4 y5 y6 y7 y8
      unfold head_Of.l0
      repeat' first
      | (with_reducible exact ih0 _ _ _ _ _ _ _ _ _)
      | (with_reducible exact ih1 _ _ _ _ _ _ _ _ _ _ _ _ _ _ _ _)
      | (with_reducible exact head_digits.mono _ _)
      | (with_reducible exact ratio_Text.mono _ _)
      | (with_reducible exact LeO.refl _)
      | (with_reducible exact LeO.none _)
      | (with_reducible refine LeO.ite ?_ ?_)
      | (with_reducible refine LeO.bind ?_ (fun _ => ?_))
      | exact ih0 _ _ _ _ _ _ _ _ _
      | exact ih1 _ _ _ _ _ _ _ _ _ _ _ _ _ _ _ _
      | exact head_digits.mono _ _
      | exact ratio_Text.mono _ _
      | exact LeO.none _
      | refine LeO.ite ?_ ?_
      | refine LeO.bind ?_ (fun _ => ?_)
    · intro y0 y1 y2 y3 y4 y5 y6 y7 y8 y9 y10 y11 y12 y13 y14 y15
      unfold head_Of.j1
      repeat' first
      | (with_reducible exact ih0 _ _ _ _ _ _ _ _ _)
      | (with_reducible exact ih1 _ _ _ _ _ _ _ _ _ _ _ _ _ _ _ _)
      | (with_reducible exact head_digits.mono _ _)
      | (with_reducible exact ratio_Text.mono _ _)
      | (with_reducible exact LeO.refl _)
      | (with_reducible exact LeO.none _)
      | (with_reducible refine LeO.ite ?_ ?_)
      | (with_reducible refine LeO.bind ?_ (fun _ => ?_))
      | exact ih0 _ _ _ _ _ _ _ _ _
      | exact ih1 _ _ _ _ _ _ _ _ _ _ _ _ _ _ _ _
      | exact head_digits.mono _ _
      | exact ratio_Text.mono _ _
      | exact LeO.none _
      | refine LeO.ite ?_ ?_
      | refine LeO.bind ?_ (fun _ => ?_)
theorem head_Of.mono : ∀ a0 k, LeO (head_Of.f k a0) (head_Of.f (k + 1) a0) := by
  intro a0 k
  obtain ⟨ih0, ih1⟩ := head_Of.mono_l k
  unfold head_Of.f
  repeat' first
      | (with_reducible exact ih0 _ _ _ _ _ _ _ _ _)
      | (with_reducible exact ih1 _ _ _ _ _ _ _ _ _ _ _ _ _ _ _ _)
      | (with_reducible exact head_digits.mono _ _)
      | (with_reducible exact ratio_Text.mono _ _)
      | (with_reducible exact LeO.refl _)
      | (with_reducible exact LeO.none _)
      | (with_reducible refine LeO.ite ?_ ?_)
      | (with_reducible refine LeO.bind ?_ (fun _ => ?_))
      | exact ih0 _ _ _ _ _ _ _ _ _
      | exact ih1 _ _ _ _ _ _ _ _ _ _ _ _ _ _ _ _
      | exact head_digits.mono _ _
      | exact ratio_Text.mono _ _
      | exact LeO.none _
      | refine LeO.ite ?_ ?_
      | refine LeO.bind ?_ (fun _ => ?_)
def head_Of.T14 : Bool × List (List Nat × List Nat) := (true, [([], []), ([0], [0]), ([1], [1]), ([2], []), ([2, 3], [2, 3]), ([4], [4]), ([], []), ([6], [6]), ([7, 3], [7]), ([8], [8]), ([], []), ([10], [10]), ([11, 8], [11]), ([12], [12]), ([], []), ([14], [14]), ([], []), ([16], [16]), ([15, 17], [15, 17]), ([], []), ([19], [19]), ([18, 20, 12], [18, 20]), ([21, 21], [21]), ([22], [22]), ([5, 9, 13, 23], [5, 9, 13, 23]), ([24, 22, 0, 1, 2, 3, 4, 5, 6, 7, 8, 9, 10, 11, 12, 13, 14, 15, 16, 17, 18, 19, 20, 21, 22, 23, 24], [24])])
def head_Of.B14 : List Nat := [0, 1, 3, 7, 15, 31, 0, 64, 207, 463, 0, 1024, 3535, 7631, 0, 16384, 0, 65536, 245760, 0, 524288, 2088399, 4185551, 8379855, 16777215, 33554431]
theorem head_Of.tab14 : rtab .any (opsOf Try.f15 14) = head_Of.T14 := by kernel_rfl
theorem head_Of.bits14 : waitsOk head_Of.T14.2 head_Of.B14 = true := by kernel_rfl
set_option maxHeartbeats 8000000 in
set_option maxRecDepth 100000 in
theorem head_Of.calls (k : Nat) (A0 : Option Addr) (c0 : Nat) (l0 : List (S26)) (r : List (S31)) (w : World) (hr0 : Kd.C k26 w A0 l0.length l0) (hc0 : l0.length ≤ c0) (h : head_Of.f k l0 = some r) :
    Calls Try.prog 15 #[.slice A0 l0.length c0] w fun e w' => ∃ v0_ : Value, e = .returned (v0_) ∧ Kd.R k31 31 w' w.heap.size (fun _ => True) v0_ r ∧ Below w.heap.size w w' := by
  have hu26 := Try.underlying26
  have hu31 := Try.underlying31
  have HR0 := Aside0.mk hr0
  have HC0 := Aside0.mk hc0
  clear hr0 hc0
  have HB := Aside0.mk (Below.refl w.heap.size w)
  have H : (head_Of.l0 k (⟨#[]⟩ : ByteArray) l0 (l0.length : Int) 0 0 0 0 0 0) = some r := h
  clear h
  have H' := Aside0.mk H
  clear H
  go_enter Try.func15, Try.ntmps15
  go_wp2_with (first | ((with_reducible refine gate_dst (N := 3) rfl ?_); refine box_event ?hg (N := 3) ?hd (cs := #[.int .i64 0, .int .i64 0, .int .i64 0, .int .i64 0, .int .i64 0]) (t := 26) ?hr ?_; (case hd => rfl); (case hg => rfl); (case hr => first | (go_simp; done) | (go_simp; rfl)); intro gb126 hg w2 hbox hb; have n0_ := Aside0.mk (below_step (by repeat (first | (with_reducible first | exact HB.out | apply below_alloc | apply pw_below_drewN | apply below_drew1) | exact HB.out)) hb); have n1_ := Aside0.mk (hbox); have n2_ := Aside0.mk ((by rw [hg]; exact (below_size (by repeat (first | (with_reducible first | exact HB.out | apply below_alloc | apply pw_below_drewN | apply below_drew1) | exact HB.out))) : w.heap.size ≤ gb126)); have n3_ := Aside0.mk ((by rw [hg]; exact (below_size (by repeat (first | (with_reducible first | exact HB.out | apply below_alloc | apply pw_below_drewN | apply below_drew1) | exact HB.out))) : w.heap.size ≤ gb126)); clear HB; have HB := n0_; have BK126 := n1_; have GW126 := n2_; have GE126 := n3_; clear n0_ n1_ n2_ n3_; clear hb hbox hg) | ((with_reducible refine gate_dst (N := 4) rfl ?_); refine box_event ?hg (N := 4) ?hd (cs := #[.pointer none, .slice none 0 0]) (t := 61) ?hr ?_; (case hd => rfl); (case hg => rfl); (case hr => first | (go_simp; done) | (go_simp; rfl)); intro gbB hg w3 hbox hb; have n0_ := Aside0.mk (blk_below (g := gb126) (o := .cells #[.int .i64 0, .int .i64 0, .int .i64 0, .int .i64 0, .int .i64 0] 26 (0, 0)) (by (with_reducible repeat (first | refine blk_drewN ?_ _ | refine blk_drew ?_ | refine blk_alloc ?_ _)); exact BK126.out) hb); have n1_ := Aside0.mk (below_step (by repeat (first | (with_reducible first | exact HB.out | apply below_alloc | apply pw_below_drewN | apply below_drew1 | refine below_set ?_ GE126.out) | exact HB.out)) hb); have n2_ := Aside0.mk (head_Of.bd_new hbox (by rw [hg]; exact (below_size (by repeat (first | (with_reducible first | exact HB.out | apply below_alloc | apply pw_below_drewN | apply below_drew1 | refine below_set ?_ GE126.out) | exact HB.out))) : w.heap.size ≤ gbB)); have n3_ := Aside0.mk ((by rw [hg]; exact (blk_lt (g := gb126) (o := .cells #[.int .i64 0, .int .i64 0, .int .i64 0, .int .i64 0, .int .i64 0] 26 (0, 0)) (by (with_reducible repeat (first | refine blk_drewN ?_ _ | refine blk_drew ?_ | refine blk_alloc ?_ _)); exact BK126.out))) : gb126 < gbB); have n4_ := Aside0.mk (show w.heap.size ≤ gbB by rw [hg]; exact (below_size (by repeat (first | (with_reducible first | exact HB.out | apply below_alloc | apply pw_below_drewN | apply below_drew1 | refine below_set ?_ GE126.out) | exact HB.out)))); clear BK126; clear HB; have BK126 := n0_; have HB := n1_; have BB := n2_; have GLB := n3_; have GWB := n4_; clear n0_ n1_ n2_ n3_ n4_; clear hb hbox hg))
  go_loopg [10] k (fun kq v10 w' => ∃ (x4_1 : ByteArray) (x10_1 : Int) (x127000_1 : Int) (x127001_1 : Int) (x127002_1 : Int) (x127003_1 : Int) (x127004_1 : Int), v10 = .int .i64 x10_1 ∧ Aside0 (head_Of.l0 kq x4_1 l0 (l0.length : Int) x10_1 x127000_1 x127001_1 x127002_1 x127003_1 x127004_1 = some r) ∧ Aside0 (kq ≤ k) ∧ Aside0 (w'.heap[gb126]? = some (.cells #[.int .i64 x127000_1, .int .i64 x127001_1, .int .i64 x127002_1, .int .i64 x127003_1, .int .i64 x127004_1] 26 (0, 0))) ∧ Aside0 (head_Of.Bd w.heap.size gbB x4_1 w') ∧ Aside0 (Below w.heap.size w w'))
  case atStart => exact ⟨((⟨#[]⟩ : ByteArray)), (0), (0), (0), (0), (0), (0), (by first | rfl | (simp; done) | (simp [*]; done)), H', ⟨Nat.le_refl _⟩, ⟨by (with_reducible repeat (first | refine blk_drewN ?_ _ | refine blk_drew ?_ | refine blk_alloc ?_ _)); exact BK126.out⟩, ⟨by (repeat (first | (with_reducible refine head_Of.bd_drewN ?_ _) | (with_reducible refine head_Of.bd_drew ?_) | (with_reducible refine head_Of.bd_alloc ?_ _) | (with_reducible refine head_Of.bd_set ?_ (by (repeat (first | (with_reducible refine head_Of.is_drewN ?_ _) | (with_reducible refine head_Of.is_drew ?_) | (with_reducible refine head_Of.is_alloc ?_ _) | (with_reducible refine head_Of.is_set ?_ _))); first | exact head_Of.is_mk BK126.out | exact head_Of.is_mk BK128.out) _ _))); exact BB.out⟩, ⟨by repeat (first | (with_reducible first | exact HB.out | apply below_alloc | apply pw_below_drewN | apply below_drew1 | refine below_set ?_ GE126.out) | exact HB.out)⟩⟩
  case round =>
    clear H'
    try clear c1
    try clear p2
    obtain ⟨x4_1, x10_1, x127000_1, x127001_1, x127002_1, x127003_1, x127004_1, rfl, HA, HK1, BK126, BB, HB⟩ := hrel
    cases gk with
    | zero => exact absurd HA.out (by simp [head_Of.l0])
    | succ k1 =>
      have H := HA.out
      clear HA
      simp only [head_Of.l0] at H
      by_cases c3 : x10_1 < (l0.length : Int)
      · rw [if_pos c3] at H
        have c3b0 : decide (x10_1 < (l0.length : Int)) = true := decide_eq_true c3
        clear c3
        by_cases c4 : 0 ≤ x10_1
        · rw [if_pos c4] at H
          have c4b0 : decide (0 ≤ x10_1) = true := decide_eq_true c4
          clear c4
          by_cases c5 : x10_1 < (l0.length : Int)
          · rw [if_pos c5] at H
            have c5b0 : decide (x10_1 < (l0.length : Int)) = true := decide_eq_true c5
            clear c5
            replace H := Option.bind_eq_some_iff.mp H
            obtain ⟨t129, A60, H⟩ := H
            replace H : (if t129 = 0 then (head_Of.l0 k1 x4_1 l0 (l0.length : Int) (wrap64 (x10_1 + 1)) x127000_1 x127001_1 x127002_1 x127003_1 x127004_1) else (if x127002_1 = 0 then (head_Of.j1 k1 x4_1 t129 l0 (l0.length : Int) x10_1 true x127000_1 x127001_1 x127002_1 x127003_1 x127004_1 ((rd_T26 l0 x10_1).f0) ((rd_T26 l0 x10_1).f1) ((rd_T26 l0 x10_1).f2) ((rd_T26 l0 x10_1).f3) ((rd_T26 l0 x10_1).f4)) else (head_Of.j1 k1 x4_1 t129 l0 (l0.length : Int) x10_1 (decide (((rd_T26 l0 x10_1).f3) < x127003_1)) x127000_1 x127001_1 x127002_1 x127003_1 x127004_1 ((rd_T26 l0 x10_1).f0) ((rd_T26 l0 x10_1).f1) ((rd_T26 l0 x10_1).f2) ((rd_T26 l0 x10_1).f3) ((rd_T26 l0 x10_1).f4)))) = some r := H
            have A6 := Aside0.mk A60
            clear A60
            by_cases c7 : t129 = 0
            · rw [if_pos c7] at H
              have c7b0 : (t129 == 0) = true := beq_iff_eq.mpr c7
              have c7b1 : (t129 != 0) = false := bne_eq_false_iff_eq.mpr c7
              clear c7
              have H' := Aside0.mk H
              clear H
              have p127 : 0 ≤ (x10_1 : Int) := of_decide_eq_true (by first | (with_reducible assumption) | assumption)
              have q127 : x10_1 < (l0.length : Int) := of_decide_eq_true (by first | (with_reducible assumption) | assumption)
              obtain ⟨ad127, e127, hx127_0, hx127_1, hx127_2, hx127_3, hx127_4⟩ := at_T26 HR0.out x10_1 p127 q127
              cases e127
              replace hx127_0 := (HB.out.cell (World.block_lt_of_cell? w _ hx127_0)).trans hx127_0
              replace hx127_1 := (HB.out.cell (World.block_lt_of_cell? w _ hx127_1)).trans hx127_1
              replace hx127_2 := (HB.out.cell (World.block_lt_of_cell? w _ hx127_2)).trans hx127_2
              replace hx127_3 := (HB.out.cell (World.block_lt_of_cell? w _ hx127_3)).trans hx127_3
              replace hx127_4 := (HB.out.cell (World.block_lt_of_cell? w _ hx127_4)).trans hx127_4
              replace p127 := eq_true p127
              replace q127 := eq_true q127
              go_wp2_with (first | ((with_reducible refine gate_dst (N := 6) rfl ?_); refine box_event ?hg (N := 6) ?hd (cs := #[.int .i64 0, .int .i64 0, .int .i64 0, .int .i64 0, .int .i64 0]) (t := 26) ?hr ?_; (case hd => rfl); (case hg => rfl); (case hr => first | (go_simp; done) | (go_simp; rfl)); intro gb128 hg w8 hbox hb; have nb_ := Aside0.mk (head_Of.bd_below (lo := w.heap.size) (b := gbB) (s := x4_1) (by (repeat (first | (with_reducible refine head_Of.bd_drewN ?_ _) | (with_reducible refine head_Of.bd_drew ?_) | (with_reducible refine head_Of.bd_alloc ?_ _) | (with_reducible refine head_Of.bd_set ?_ (by (repeat (first | (with_reducible refine head_Of.is_drewN ?_ _) | (with_reducible refine head_Of.is_drew ?_) | (with_reducible refine head_Of.is_alloc ?_ _) | (with_reducible refine head_Of.is_set ?_ _))); first | exact head_Of.is_mk BK126.out | exact head_Of.is_mk BK128.out) _ _))); exact BB.out) hb); clear BB; have BB := nb_; clear nb_; have n0_ := Aside0.mk (blk_below (g := gb126) (o := .cells #[.int .i64 x127000_1, .int .i64 x127001_1, .int .i64 x127002_1, .int .i64 x127003_1, .int .i64 x127004_1] 26 (0, 0)) (by (with_reducible repeat (first | refine blk_drewN ?_ _ | refine blk_drew ?_ | refine blk_alloc ?_ _)); exact BK126.out) hb); have n1_ := Aside0.mk (below_step (by repeat (first | (with_reducible first | exact HB.out | apply below_alloc | apply pw_below_drewN | apply below_drew1 | refine below_set ?_ GE126.out) | exact HB.out)) hb); have n2_ := Aside0.mk (hbox); have n3_ := Aside0.mk ((by rw [hg]; exact (below_size (by repeat (first | (with_reducible first | exact HB.out | apply below_alloc | apply pw_below_drewN | apply below_drew1 | refine below_set ?_ GE126.out) | exact HB.out))) : w.heap.size ≤ gb128)); have n4_ := Aside0.mk ((by rw [hg]; exact (below_size (by repeat (first | (with_reducible first | exact HB.out | apply below_alloc | apply pw_below_drewN | apply below_drew1 | refine below_set ?_ GE126.out) | exact HB.out))) : w.heap.size ≤ gb128)); have n5_ := Aside0.mk ((by rw [hg]; exact Nat.ne_of_lt (blk_lt (g := gb126) (o := .cells #[.int .i64 x127000_1, .int .i64 x127001_1, .int .i64 x127002_1, .int .i64 x127003_1, .int .i64 x127004_1] 26 (0, 0)) (by (with_reducible repeat (first | refine blk_drewN ?_ _ | refine blk_drew ?_ | refine blk_alloc ?_ _)); exact BK126.out)) : gb126 ≠ gb128)); have n6_ := Aside0.mk ((by rw [hg]; exact Nat.ne_of_gt (blk_lt (g := gb126) (o := .cells #[.int .i64 x127000_1, .int .i64 x127001_1, .int .i64 x127002_1, .int .i64 x127003_1, .int .i64 x127004_1] 26 (0, 0)) (by (with_reducible repeat (first | refine blk_drewN ?_ _ | refine blk_drew ?_ | refine blk_alloc ?_ _)); exact BK126.out)) : gb128 ≠ gb126)); clear BK126; clear HB; have BK126 := n0_; have HB := n1_; have BK128 := n2_; have GW128 := n3_; have GE128 := n4_; have NB126_128 := n5_; have NB128_126 := n6_; clear n0_ n1_ n2_ n3_ n4_ n5_ n6_; clear hb hbox hg; have hnb9 := NB128_126.out; have hnc9 := NB126_128.out; have hcz10_0 : w8.cell? ⟨gb128, 0, none⟩ = some (.int .i64 0) := (blk_cell BK128.out 0).trans rfl; have hcz10_1 : w8.cell? ⟨gb128, 1, none⟩ = some (.int .i64 0) := (blk_cell BK128.out 1).trans rfl; have hcz10_2 : w8.cell? ⟨gb128, 2, none⟩ = some (.int .i64 0) := (blk_cell BK128.out 2).trans rfl; have hcz10_3 : w8.cell? ⟨gb128, 3, none⟩ = some (.int .i64 0) := (blk_cell BK128.out 3).trans rfl; have hcz10_4 : w8.cell? ⟨gb128, 4, none⟩ = some (.int .i64 0) := (blk_cell BK128.out 4).trans rfl; have hfz10_0 := blk_frozen BK128.out 0; have hfz10_1 := blk_frozen BK128.out 1; have hfz10_2 := blk_frozen BK128.out 2; have hfz10_3 := blk_frozen BK128.out 3; have hfz10_4 := blk_frozen BK128.out 4) | ((with_reducible refine gate_callee (f := 38) rfl ?_); refine goesL_ (some 16) rfl rfl Try.func38 (by kernel_rfl) rfl #[.int .i64 ((rd_T26 l0 x10_1).f2)] rfl (by (try simp only [List.map_toArray, List.map_cons, List.map_nil]); first | done | rfl | (simp only [List.length_drop, List.length_take]; rfl)) ?_; (with_reducible refine (unit_Secs.calls ((rd_T26 l0 x10_1).f2) t129 _ A6.out).mono ?_); rintro e w11 ⟨rfl, hb⟩; refine ⟨_, rfl, ?_⟩; have nb_ := Aside0.mk (head_Of.bd_below (lo := w.heap.size) (b := gbB) (s := x4_1) (by (repeat (first | (with_reducible refine head_Of.bd_drewN ?_ _) | (with_reducible refine head_Of.bd_drew ?_) | (with_reducible refine head_Of.bd_alloc ?_ _) | (with_reducible refine head_Of.bd_set ?_ (by (repeat (first | (with_reducible refine head_Of.is_drewN ?_ _) | (with_reducible refine head_Of.is_drew ?_) | (with_reducible refine head_Of.is_alloc ?_ _) | (with_reducible refine head_Of.is_set ?_ _))); first | exact head_Of.is_mk BK126.out | exact head_Of.is_mk BK128.out) _ _))); exact BB.out) hb); clear BB; have BB := nb_; clear nb_; have n0_ := Aside0.mk (blk_below (g := gb126) (o := .cells #[.int .i64 x127000_1, .int .i64 x127001_1, .int .i64 x127002_1, .int .i64 x127003_1, .int .i64 x127004_1] 26 (0, 0)) (by (with_reducible repeat (first | refine blk_drewN ?_ _ | refine blk_drew ?_ | refine blk_alloc ?_ _)); refine blk_far ?_ NB126_128.out _; (with_reducible repeat (first | refine blk_drewN ?_ _ | refine blk_drew ?_ | refine blk_alloc ?_ _)); refine blk_far ?_ NB126_128.out _; (with_reducible repeat (first | refine blk_drewN ?_ _ | refine blk_drew ?_ | refine blk_alloc ?_ _)); refine blk_far ?_ NB126_128.out _; (with_reducible repeat (first | refine blk_drewN ?_ _ | refine blk_drew ?_ | refine blk_alloc ?_ _)); refine blk_far ?_ NB126_128.out _; (with_reducible repeat (first | refine blk_drewN ?_ _ | refine blk_drew ?_ | refine blk_alloc ?_ _)); refine blk_far ?_ NB126_128.out _; (with_reducible repeat (first | refine blk_drewN ?_ _ | refine blk_drew ?_ | refine blk_alloc ?_ _)); exact BK126.out) hb); have n1_ := Aside0.mk (blk_below (g := gb128) (o := .cells #[.int .i64 ((rd_T26 l0 x10_1).f0), .int .i64 ((rd_T26 l0 x10_1).f1), .int .i64 ((rd_T26 l0 x10_1).f2), .int .i64 ((rd_T26 l0 x10_1).f3), .int .i64 ((rd_T26 l0 x10_1).f4)] 26 (0, 0)) (by (with_reducible repeat (first | refine blk_drewN ?_ _ | refine blk_drew ?_ | refine blk_alloc ?_ _)); refine blk_put (cs := #[.int .i64 ((rd_T26 l0 x10_1).f0), .int .i64 ((rd_T26 l0 x10_1).f1), .int .i64 ((rd_T26 l0 x10_1).f2), .int .i64 ((rd_T26 l0 x10_1).f3), .int .i64 0]) ?_ 4 _ rfl; (with_reducible repeat (first | refine blk_drewN ?_ _ | refine blk_drew ?_ | refine blk_alloc ?_ _)); refine blk_put (cs := #[.int .i64 ((rd_T26 l0 x10_1).f0), .int .i64 ((rd_T26 l0 x10_1).f1), .int .i64 ((rd_T26 l0 x10_1).f2), .int .i64 0, .int .i64 0]) ?_ 3 _ rfl; (with_reducible repeat (first | refine blk_drewN ?_ _ | refine blk_drew ?_ | refine blk_alloc ?_ _)); refine blk_put (cs := #[.int .i64 ((rd_T26 l0 x10_1).f0), .int .i64 ((rd_T26 l0 x10_1).f1), .int .i64 0, .int .i64 0, .int .i64 0]) ?_ 2 _ rfl; (with_reducible repeat (first | refine blk_drewN ?_ _ | refine blk_drew ?_ | refine blk_alloc ?_ _)); refine blk_put (cs := #[.int .i64 ((rd_T26 l0 x10_1).f0), .int .i64 0, .int .i64 0, .int .i64 0, .int .i64 0]) ?_ 1 _ rfl; (with_reducible repeat (first | refine blk_drewN ?_ _ | refine blk_drew ?_ | refine blk_alloc ?_ _)); refine blk_put (cs := #[.int .i64 0, .int .i64 0, .int .i64 0, .int .i64 0, .int .i64 0]) ?_ 0 _ rfl; (with_reducible repeat (first | refine blk_drewN ?_ _ | refine blk_drew ?_ | refine blk_alloc ?_ _)); exact BK128.out) hb); have n2_ := Aside0.mk (below_step (by repeat (first | (with_reducible first | exact HB.out | apply below_alloc | apply pw_below_drewN | apply below_drew1 | refine below_set ?_ GE126.out | refine below_set ?_ GE128.out) | exact HB.out)) hb); clear BK126; clear BK128; clear HB; have BK126 := n0_; have BK128 := n1_; have HB := n2_; clear n0_ n1_ n2_; (try clear hb); (try clear hb2); (try clear hk); (try clear hi)))
              go_roundg k1
              case measure => have := HK1.out; omega
              case rel => exact ⟨(x4_1), (wrap64 (x10_1 + 1)), (x127000_1), (x127001_1), (x127002_1), (x127003_1), (x127004_1), (by first | rfl | (simp; done) | (simp [*]; done)), H', ⟨by have := HK1.out; omega⟩, ⟨by (with_reducible repeat (first | refine blk_drewN ?_ _ | refine blk_drew ?_ | refine blk_alloc ?_ _)); exact BK126.out⟩, ⟨by (repeat (first | (with_reducible refine head_Of.bd_drewN ?_ _) | (with_reducible refine head_Of.bd_drew ?_) | (with_reducible refine head_Of.bd_alloc ?_ _) | (with_reducible refine head_Of.bd_set ?_ (by (repeat (first | (with_reducible refine head_Of.is_drewN ?_ _) | (with_reducible refine head_Of.is_drew ?_) | (with_reducible refine head_Of.is_alloc ?_ _) | (with_reducible refine head_Of.is_set ?_ _))); first | exact head_Of.is_mk BK126.out | exact head_Of.is_mk BK128.out) _ _))); exact BB.out⟩, ⟨by repeat (first | (with_reducible first | exact HB.out | apply below_alloc | apply pw_below_drewN | apply below_drew1 | refine below_set ?_ GE126.out | refine below_set ?_ GE128.out) | exact HB.out)⟩⟩
            · rw [if_neg c7] at H
              have c7b0 : (t129 == 0) = false := beq_eq_false_iff_ne.mpr c7
              have c7b1 : (t129 != 0) = true := bne_iff_ne.mpr c7
              have HC12 := Aside0.mk H
              clear H
              have p127 : 0 ≤ (x10_1 : Int) := of_decide_eq_true (by first | (with_reducible assumption) | assumption)
              have q127 : x10_1 < (l0.length : Int) := of_decide_eq_true (by first | (with_reducible assumption) | assumption)
              obtain ⟨ad127, e127, hx127_0, hx127_1, hx127_2, hx127_3, hx127_4⟩ := at_T26 HR0.out x10_1 p127 q127
              cases e127
              replace hx127_0 := (HB.out.cell (World.block_lt_of_cell? w _ hx127_0)).trans hx127_0
              replace hx127_1 := (HB.out.cell (World.block_lt_of_cell? w _ hx127_1)).trans hx127_1
              replace hx127_2 := (HB.out.cell (World.block_lt_of_cell? w _ hx127_2)).trans hx127_2
              replace hx127_3 := (HB.out.cell (World.block_lt_of_cell? w _ hx127_3)).trans hx127_3
              replace hx127_4 := (HB.out.cell (World.block_lt_of_cell? w _ hx127_4)).trans hx127_4
              replace p127 := eq_true p127
              replace q127 := eq_true q127
              go_upto_region 8 with (first | ((with_reducible refine gate_dst (N := 6) rfl ?_); refine box_event ?hg (N := 6) ?hd (cs := #[.int .i64 0, .int .i64 0, .int .i64 0, .int .i64 0, .int .i64 0]) (t := 26) ?hr ?_; (case hd => rfl); (case hg => rfl); (case hr => first | (go_simp; done) | (go_simp; rfl)); intro gb128 hg w13 hbox hb; have nb_ := Aside0.mk (head_Of.bd_below (lo := w.heap.size) (b := gbB) (s := x4_1) (by (repeat (first | (with_reducible refine head_Of.bd_drewN ?_ _) | (with_reducible refine head_Of.bd_drew ?_) | (with_reducible refine head_Of.bd_alloc ?_ _) | (with_reducible refine head_Of.bd_set ?_ (by (repeat (first | (with_reducible refine head_Of.is_drewN ?_ _) | (with_reducible refine head_Of.is_drew ?_) | (with_reducible refine head_Of.is_alloc ?_ _) | (with_reducible refine head_Of.is_set ?_ _))); first | exact head_Of.is_mk BK126.out | exact head_Of.is_mk BK128.out) _ _))); exact BB.out) hb); clear BB; have BB := nb_; clear nb_; have n0_ := Aside0.mk (blk_below (g := gb126) (o := .cells #[.int .i64 x127000_1, .int .i64 x127001_1, .int .i64 x127002_1, .int .i64 x127003_1, .int .i64 x127004_1] 26 (0, 0)) (by (with_reducible repeat (first | refine blk_drewN ?_ _ | refine blk_drew ?_ | refine blk_alloc ?_ _)); exact BK126.out) hb); have n1_ := Aside0.mk (below_step (by repeat (first | (with_reducible first | exact HB.out | apply below_alloc | apply pw_below_drewN | apply below_drew1 | refine below_set ?_ GE126.out) | exact HB.out)) hb); have n2_ := Aside0.mk (hbox); have n3_ := Aside0.mk ((by rw [hg]; exact (below_size (by repeat (first | (with_reducible first | exact HB.out | apply below_alloc | apply pw_below_drewN | apply below_drew1 | refine below_set ?_ GE126.out) | exact HB.out))) : w.heap.size ≤ gb128)); have n4_ := Aside0.mk ((by rw [hg]; exact (below_size (by repeat (first | (with_reducible first | exact HB.out | apply below_alloc | apply pw_below_drewN | apply below_drew1 | refine below_set ?_ GE126.out) | exact HB.out))) : w.heap.size ≤ gb128)); have n5_ := Aside0.mk ((by rw [hg]; exact Nat.ne_of_lt (blk_lt (g := gb126) (o := .cells #[.int .i64 x127000_1, .int .i64 x127001_1, .int .i64 x127002_1, .int .i64 x127003_1, .int .i64 x127004_1] 26 (0, 0)) (by (with_reducible repeat (first | refine blk_drewN ?_ _ | refine blk_drew ?_ | refine blk_alloc ?_ _)); exact BK126.out)) : gb126 ≠ gb128)); have n6_ := Aside0.mk ((by rw [hg]; exact Nat.ne_of_gt (blk_lt (g := gb126) (o := .cells #[.int .i64 x127000_1, .int .i64 x127001_1, .int .i64 x127002_1, .int .i64 x127003_1, .int .i64 x127004_1] 26 (0, 0)) (by (with_reducible repeat (first | refine blk_drewN ?_ _ | refine blk_drew ?_ | refine blk_alloc ?_ _)); exact BK126.out)) : gb128 ≠ gb126)); clear BK126; clear HB; have BK126 := n0_; have HB := n1_; have BK128 := n2_; have GW128 := n3_; have GE128 := n4_; have NB126_128 := n5_; have NB128_126 := n6_; clear n0_ n1_ n2_ n3_ n4_ n5_ n6_; clear hb hbox hg; have hnb14 := NB128_126.out; have hnc14 := NB126_128.out; have hcz15_0 : w13.cell? ⟨gb128, 0, none⟩ = some (.int .i64 0) := (blk_cell BK128.out 0).trans rfl; have hcz15_1 : w13.cell? ⟨gb128, 1, none⟩ = some (.int .i64 0) := (blk_cell BK128.out 1).trans rfl; have hcz15_2 : w13.cell? ⟨gb128, 2, none⟩ = some (.int .i64 0) := (blk_cell BK128.out 2).trans rfl; have hcz15_3 : w13.cell? ⟨gb128, 3, none⟩ = some (.int .i64 0) := (blk_cell BK128.out 3).trans rfl; have hcz15_4 : w13.cell? ⟨gb128, 4, none⟩ = some (.int .i64 0) := (blk_cell BK128.out 4).trans rfl; have hfz15_0 := blk_frozen BK128.out 0; have hfz15_1 := blk_frozen BK128.out 1; have hfz15_2 := blk_frozen BK128.out 2; have hfz15_3 := blk_frozen BK128.out 3; have hfz15_4 := blk_frozen BK128.out 4) | ((with_reducible refine gate_callee (f := 38) rfl ?_); refine goesL_ (some 16) rfl rfl Try.func38 (by kernel_rfl) rfl #[.int .i64 ((rd_T26 l0 x10_1).f2)] rfl (by (try simp only [List.map_toArray, List.map_cons, List.map_nil]); first | done | rfl | (simp only [List.length_drop, List.length_take]; rfl)) ?_; (with_reducible refine (unit_Secs.calls ((rd_T26 l0 x10_1).f2) t129 _ A6.out).mono ?_); rintro e w16 ⟨rfl, hb⟩; refine ⟨_, rfl, ?_⟩; have nb_ := Aside0.mk (head_Of.bd_below (lo := w.heap.size) (b := gbB) (s := x4_1) (by (repeat (first | (with_reducible refine head_Of.bd_drewN ?_ _) | (with_reducible refine head_Of.bd_drew ?_) | (with_reducible refine head_Of.bd_alloc ?_ _) | (with_reducible refine head_Of.bd_set ?_ (by (repeat (first | (with_reducible refine head_Of.is_drewN ?_ _) | (with_reducible refine head_Of.is_drew ?_) | (with_reducible refine head_Of.is_alloc ?_ _) | (with_reducible refine head_Of.is_set ?_ _))); first | exact head_Of.is_mk BK126.out | exact head_Of.is_mk BK128.out) _ _))); exact BB.out) hb); clear BB; have BB := nb_; clear nb_; have n0_ := Aside0.mk (blk_below (g := gb126) (o := .cells #[.int .i64 x127000_1, .int .i64 x127001_1, .int .i64 x127002_1, .int .i64 x127003_1, .int .i64 x127004_1] 26 (0, 0)) (by (with_reducible repeat (first | refine blk_drewN ?_ _ | refine blk_drew ?_ | refine blk_alloc ?_ _)); refine blk_far ?_ NB126_128.out _; (with_reducible repeat (first | refine blk_drewN ?_ _ | refine blk_drew ?_ | refine blk_alloc ?_ _)); refine blk_far ?_ NB126_128.out _; (with_reducible repeat (first | refine blk_drewN ?_ _ | refine blk_drew ?_ | refine blk_alloc ?_ _)); refine blk_far ?_ NB126_128.out _; (with_reducible repeat (first | refine blk_drewN ?_ _ | refine blk_drew ?_ | refine blk_alloc ?_ _)); refine blk_far ?_ NB126_128.out _; (with_reducible repeat (first | refine blk_drewN ?_ _ | refine blk_drew ?_ | refine blk_alloc ?_ _)); refine blk_far ?_ NB126_128.out _; (with_reducible repeat (first | refine blk_drewN ?_ _ | refine blk_drew ?_ | refine blk_alloc ?_ _)); exact BK126.out) hb); have n1_ := Aside0.mk (blk_below (g := gb128) (o := .cells #[.int .i64 ((rd_T26 l0 x10_1).f0), .int .i64 ((rd_T26 l0 x10_1).f1), .int .i64 ((rd_T26 l0 x10_1).f2), .int .i64 ((rd_T26 l0 x10_1).f3), .int .i64 ((rd_T26 l0 x10_1).f4)] 26 (0, 0)) (by (with_reducible repeat (first | refine blk_drewN ?_ _ | refine blk_drew ?_ | refine blk_alloc ?_ _)); refine blk_put (cs := #[.int .i64 ((rd_T26 l0 x10_1).f0), .int .i64 ((rd_T26 l0 x10_1).f1), .int .i64 ((rd_T26 l0 x10_1).f2), .int .i64 ((rd_T26 l0 x10_1).f3), .int .i64 0]) ?_ 4 _ rfl; (with_reducible repeat (first | refine blk_drewN ?_ _ | refine blk_drew ?_ | refine blk_alloc ?_ _)); refine blk_put (cs := #[.int .i64 ((rd_T26 l0 x10_1).f0), .int .i64 ((rd_T26 l0 x10_1).f1), .int .i64 ((rd_T26 l0 x10_1).f2), .int .i64 0, .int .i64 0]) ?_ 3 _ rfl; (with_reducible repeat (first | refine blk_drewN ?_ _ | refine blk_drew ?_ | refine blk_alloc ?_ _)); refine blk_put (cs := #[.int .i64 ((rd_T26 l0 x10_1).f0), .int .i64 ((rd_T26 l0 x10_1).f1), .int .i64 0, .int .i64 0, .int .i64 0]) ?_ 2 _ rfl; (with_reducible repeat (first | refine blk_drewN ?_ _ | refine blk_drew ?_ | refine blk_alloc ?_ _)); refine blk_put (cs := #[.int .i64 ((rd_T26 l0 x10_1).f0), .int .i64 0, .int .i64 0, .int .i64 0, .int .i64 0]) ?_ 1 _ rfl; (with_reducible repeat (first | refine blk_drewN ?_ _ | refine blk_drew ?_ | refine blk_alloc ?_ _)); refine blk_put (cs := #[.int .i64 0, .int .i64 0, .int .i64 0, .int .i64 0, .int .i64 0]) ?_ 0 _ rfl; (with_reducible repeat (first | refine blk_drewN ?_ _ | refine blk_drew ?_ | refine blk_alloc ?_ _)); exact BK128.out) hb); have n2_ := Aside0.mk (below_step (by repeat (first | (with_reducible first | exact HB.out | apply below_alloc | apply pw_below_drewN | apply below_drew1 | refine below_set ?_ GE126.out | refine below_set ?_ GE128.out) | exact HB.out)) hb); clear BK126; clear BK128; clear HB; have BK126 := n0_; have BK128 := n1_; have HB := n2_; clear n0_ n1_ n2_; (try clear hb); (try clear hb2); (try clear hk); (try clear hi)))
              (try simp only [Act.put, List.setIfInBounds_toArray, List.set_cons_zero, List.set_cons_succ])
              go_cut [28] (fun v28 wc => ∃ (kq : Nat) (x28_11 : Bool), v28 = .bool x28_11 ∧ Aside0 (head_Of.j1 kq x4_1 t129 l0 (l0.length : Int) x10_1 x28_11 x127000_1 x127001_1 x127002_1 x127003_1 x127004_1 ((rd_T26 l0 x10_1).f0) ((rd_T26 l0 x10_1).f1) ((rd_T26 l0 x10_1).f2) ((rd_T26 l0 x10_1).f3) ((rd_T26 l0 x10_1).f4) = some r) ∧ Aside0 (kq ≤ k1) ∧ Aside0 (wc.heap[gb126]? = some (.cells #[.int .i64 x127000_1, .int .i64 x127001_1, .int .i64 x127002_1, .int .i64 x127003_1, .int .i64 x127004_1] 26 (0, 0))) ∧ Aside0 (wc.heap[gb128]? = some (.cells #[.int .i64 ((rd_T26 l0 x10_1).f0), .int .i64 ((rd_T26 l0 x10_1).f1), .int .i64 ((rd_T26 l0 x10_1).f2), .int .i64 ((rd_T26 l0 x10_1).f3), .int .i64 ((rd_T26 l0 x10_1).f4)] 26 (0, 0))) ∧ Aside0 (head_Of.Bd w.heap.size gbB x4_1 wc) ∧ Aside0 (Below w.heap.size w wc))
              case first =>
                have H := HC12.out
                clear HC12
                by_cases c17 : x127002_1 = 0
                · rw [if_pos c17] at H
                  have c17b0 : (x127002_1 == 0) = true := beq_iff_eq.mpr c17
                  have c17b1 : (x127002_1 != 0) = false := bne_eq_false_iff_eq.mpr c17
                  clear c17
                  (first | rw [c17b0] | (simp only [i64_w, i32_w]; rw [c17b0]) | skip)
                  have H' := Aside0.mk H
                  clear H
                  have hnb18 := NB126_128.out
                  have hnc18 := NB128_126.out
                  have hcz19_0 : w16.cell? ⟨gb126, 0, none⟩ = some (.int .i64 x127000_1) := (blk_cell BK126.out 0).trans rfl
                  have hcz19_1 : w16.cell? ⟨gb126, 1, none⟩ = some (.int .i64 x127001_1) := (blk_cell BK126.out 1).trans rfl
                  have hcz19_2 : w16.cell? ⟨gb126, 2, none⟩ = some (.int .i64 x127002_1) := (blk_cell BK126.out 2).trans rfl
                  have hcz19_3 : w16.cell? ⟨gb126, 3, none⟩ = some (.int .i64 x127003_1) := (blk_cell BK126.out 3).trans rfl
                  have hcz19_4 : w16.cell? ⟨gb126, 4, none⟩ = some (.int .i64 x127004_1) := (blk_cell BK126.out 4).trans rfl
                  have hfz19_0 := blk_frozen BK126.out 0
                  have hfz19_1 := blk_frozen BK126.out 1
                  have hfz19_2 := blk_frozen BK126.out 2
                  have hfz19_3 := blk_frozen BK126.out 3
                  have hfz19_4 := blk_frozen BK126.out 4
                  go_wp2
                  go_meet
                  case rel => exact ⟨_, (true), (by first | rfl | (simp; done) | (simp [*]; done)), H', ⟨by have := HK1.out; first | omega | exact Nat.le_refl _⟩, ⟨by (with_reducible repeat (first | refine blk_drewN ?_ _ | refine blk_drew ?_ | refine blk_alloc ?_ _)); exact BK126.out⟩, ⟨by (with_reducible repeat (first | refine blk_drewN ?_ _ | refine blk_drew ?_ | refine blk_alloc ?_ _)); exact BK128.out⟩, ⟨by (repeat (first | (with_reducible refine head_Of.bd_drewN ?_ _) | (with_reducible refine head_Of.bd_drew ?_) | (with_reducible refine head_Of.bd_alloc ?_ _) | (with_reducible refine head_Of.bd_set ?_ (by (repeat (first | (with_reducible refine head_Of.is_drewN ?_ _) | (with_reducible refine head_Of.is_drew ?_) | (with_reducible refine head_Of.is_alloc ?_ _) | (with_reducible refine head_Of.is_set ?_ _))); first | exact head_Of.is_mk BK126.out | exact head_Of.is_mk BK128.out) _ _))); exact BB.out⟩, ⟨by repeat (first | (with_reducible first | exact HB.out | apply below_alloc | apply pw_below_drewN | apply below_drew1 | refine below_set ?_ GE126.out | refine below_set ?_ GE128.out) | exact HB.out)⟩⟩
                · rw [if_neg c17] at H
                  have c17b0 : (x127002_1 == 0) = false := beq_eq_false_iff_ne.mpr c17
                  have c17b1 : (x127002_1 != 0) = true := bne_iff_ne.mpr c17
                  (first | rw [c17b0] | (simp only [i64_w, i32_w]; rw [c17b0]) | skip)
                  have H' := Aside0.mk H
                  clear H
                  have hnb20 := NB126_128.out
                  have hnc20 := NB128_126.out
                  have hcz21_0 : w16.cell? ⟨gb126, 0, none⟩ = some (.int .i64 x127000_1) := (blk_cell BK126.out 0).trans rfl
                  have hcz21_1 : w16.cell? ⟨gb126, 1, none⟩ = some (.int .i64 x127001_1) := (blk_cell BK126.out 1).trans rfl
                  have hcz21_2 : w16.cell? ⟨gb126, 2, none⟩ = some (.int .i64 x127002_1) := (blk_cell BK126.out 2).trans rfl
                  have hcz21_3 : w16.cell? ⟨gb126, 3, none⟩ = some (.int .i64 x127003_1) := (blk_cell BK126.out 3).trans rfl
                  have hcz21_4 : w16.cell? ⟨gb126, 4, none⟩ = some (.int .i64 x127004_1) := (blk_cell BK126.out 4).trans rfl
                  have hfz21_0 := blk_frozen BK126.out 0
                  have hfz21_1 := blk_frozen BK126.out 1
                  have hfz21_2 := blk_frozen BK126.out 2
                  have hfz21_3 := blk_frozen BK126.out 3
                  have hfz21_4 := blk_frozen BK126.out 4
                  have hcz22_0 : w16.cell? ⟨gb128, 0, none⟩ = some (.int .i64 ((rd_T26 l0 x10_1).f0)) := (blk_cell BK128.out 0).trans rfl
                  have hcz22_1 : w16.cell? ⟨gb128, 1, none⟩ = some (.int .i64 ((rd_T26 l0 x10_1).f1)) := (blk_cell BK128.out 1).trans rfl
                  have hcz22_2 : w16.cell? ⟨gb128, 2, none⟩ = some (.int .i64 ((rd_T26 l0 x10_1).f2)) := (blk_cell BK128.out 2).trans rfl
                  have hcz22_3 : w16.cell? ⟨gb128, 3, none⟩ = some (.int .i64 ((rd_T26 l0 x10_1).f3)) := (blk_cell BK128.out 3).trans rfl
                  have hcz22_4 : w16.cell? ⟨gb128, 4, none⟩ = some (.int .i64 ((rd_T26 l0 x10_1).f4)) := (blk_cell BK128.out 4).trans rfl
                  have hfz22_0 := blk_frozen BK128.out 0
                  have hfz22_1 := blk_frozen BK128.out 1
                  have hfz22_2 := blk_frozen BK128.out 2
                  have hfz22_3 := blk_frozen BK128.out 3
                  have hfz22_4 := blk_frozen BK128.out 4
                  go_wp2
                  go_meet
                  case rel => exact ⟨_, (decide (((rd_T26 l0 x10_1).f3) < x127003_1)), (by first | rfl | (simp; done) | (simp [*]; done)), H', ⟨by have := HK1.out; first | omega | exact Nat.le_refl _⟩, ⟨by (with_reducible repeat (first | refine blk_drewN ?_ _ | refine blk_drew ?_ | refine blk_alloc ?_ _)); exact BK126.out⟩, ⟨by (with_reducible repeat (first | refine blk_drewN ?_ _ | refine blk_drew ?_ | refine blk_alloc ?_ _)); exact BK128.out⟩, ⟨by (repeat (first | (with_reducible refine head_Of.bd_drewN ?_ _) | (with_reducible refine head_Of.bd_drew ?_) | (with_reducible refine head_Of.bd_alloc ?_ _) | (with_reducible refine head_Of.bd_set ?_ (by (repeat (first | (with_reducible refine head_Of.is_drewN ?_ _) | (with_reducible refine head_Of.is_drew ?_) | (with_reducible refine head_Of.is_alloc ?_ _) | (with_reducible refine head_Of.is_set ?_ _))); first | exact head_Of.is_mk BK126.out | exact head_Of.is_mk BK128.out) _ _))); exact BB.out⟩, ⟨by repeat (first | (with_reducible first | exact HB.out | apply below_alloc | apply pw_below_drewN | apply below_drew1 | refine below_set ?_ GE126.out | refine below_set ?_ GE128.out) | exact HB.out)⟩⟩
              case rest =>
                clear HC12
                try clear c1
                try clear p1
                try clear q1
                try clear hx1
                try clear c2
                try clear p2
                try clear c3
                try clear c3b0
                try clear c4
                try clear c4b0
                try clear c5
                try clear c5b0
                try clear p6
                try clear c7
                try clear c7b0
                try clear c7b1
                try clear c9
                try clear p12
                try clear q12
                try clear hx12
                try clear c14
                try clear c15
                try clear c17
                try clear c17b0
                try clear c17b1
                try clear c18
                try clear c20
                try clear hcz10_0
                try clear hcz10_1
                try clear hcz10_2
                try clear hcz10_3
                try clear hcz10_4
                try clear hcz15_0
                try clear hcz15_1
                try clear hcz15_2
                try clear hcz15_3
                try clear hcz15_4
                try clear hcz19_0
                try clear hcz19_1
                try clear hcz19_2
                try clear hcz19_3
                try clear hcz19_4
                try clear hcz21_0
                try clear hcz21_1
                try clear hcz21_2
                try clear hcz21_3
                try clear hcz21_4
                try clear hcz22_0
                try clear hcz22_1
                try clear hcz22_2
                try clear hcz22_3
                try clear hcz22_4
                try clear hfz10_0
                try clear hfz10_1
                try clear hfz10_2
                try clear hfz10_3
                try clear hfz10_4
                try clear hfz15_0
                try clear hfz15_1
                try clear hfz15_2
                try clear hfz15_3
                try clear hfz15_4
                try clear hfz19_0
                try clear hfz19_1
                try clear hfz19_2
                try clear hfz19_3
                try clear hfz19_4
                try clear hfz21_0
                try clear hfz21_1
                try clear hfz21_2
                try clear hfz21_3
                try clear hfz21_4
                try clear hfz22_0
                try clear hfz22_1
                try clear hfz22_2
                try clear hfz22_3
                try clear hfz22_4
                try clear hx127_0
                try clear hx127_1
                try clear hx127_2
                try clear hx127_3
                try clear hx127_4
                try clear p127
                try clear p2
                try clear q127
                obtain ⟨kq, x28_11, rfl, HA, HJ11, BK126, BK128, BB, HB⟩ := hcut
                cases kq with
                | zero => exact absurd HA.out (by simp [head_Of.j1])
                | succ kj11 =>
                  have H := HA.out
                  clear HA
                  simp only [head_Of.j1] at H
                  by_cases c23 : x28_11 = true
                  · subst c23
                    have H1 : ((head_digits.f kj11 ((rd_T26 l0 x10_1).f1)).bind fun t130 => (if 2 + t130.size ≤ 9223372036854775807 then (if 2 + t130.size + 3 ≤ 9223372036854775807 then ((head_digits.f kj11 t129).bind fun t131 => (if 2 + t130.size + 3 + t131.size ≤ 9223372036854775807 then (if x4_1.size + 2 + t130.size + 3 + t131.size ≤ 140737488355328 then (head_Of.l0 kj11 (x4_1 ++ ((((⟨#[44, 32]⟩ : ByteArray) ++ t130) ++ (⟨#[59, 119, 61]⟩ : ByteArray)) ++ t131)) l0 (l0.length : Int) (wrap64 (x10_1 + 1)) ((rd_T26 l0 x10_1).f0) ((rd_T26 l0 x10_1).f1) ((rd_T26 l0 x10_1).f2) ((rd_T26 l0 x10_1).f3) ((rd_T26 l0 x10_1).f4)) else (none)) else (none))) else (none)) else (none))) = some r := by rw [if_pos rfl] at H; exact H
                    clear H
                    have H := H1
                    clear H1
                    replace H := Option.bind_eq_some_iff.mp H
                    obtain ⟨t130, A240, H⟩ := H
                    replace H : (if 2 + t130.size ≤ 9223372036854775807 then (if 2 + t130.size + 3 ≤ 9223372036854775807 then ((head_digits.f kj11 t129).bind fun t131 => (if 2 + t130.size + 3 + t131.size ≤ 9223372036854775807 then (if x4_1.size + 2 + t130.size + 3 + t131.size ≤ 140737488355328 then (head_Of.l0 kj11 (x4_1 ++ ((((⟨#[44, 32]⟩ : ByteArray) ++ t130) ++ (⟨#[59, 119, 61]⟩ : ByteArray)) ++ t131)) l0 (l0.length : Int) (wrap64 (x10_1 + 1)) ((rd_T26 l0 x10_1).f0) ((rd_T26 l0 x10_1).f1) ((rd_T26 l0 x10_1).f2) ((rd_T26 l0 x10_1).f3) ((rd_T26 l0 x10_1).f4)) else (none)) else (none))) else (none)) else (none)) = some r := H
                    have A24 := Aside0.mk A240
                    clear A240
                    by_cases c25 : 2 + t130.size ≤ 9223372036854775807
                    · rw [if_pos c25] at H
                      have c25b0 := eq_true c25
                      have c25b1 : decide (2 + t130.size ≤ 9223372036854775807) = true := decide_eq_true c25
                      try have c25b2 : (9223372036854775807 < 2 + t130.size) = False := eq_false (Nat.not_lt.2 c25)
                      by_cases c26 : 2 + t130.size + 3 ≤ 9223372036854775807
                      · rw [if_pos c26] at H
                        have c26b0 := eq_true c26
                        have c26b1 : decide (2 + t130.size + 3 ≤ 9223372036854775807) = true := decide_eq_true c26
                        try have c26b2 : (9223372036854775807 < 2 + t130.size + 3) = False := eq_false (Nat.not_lt.2 c26)
                        replace H := Option.bind_eq_some_iff.mp H
                        obtain ⟨t131, A270, H⟩ := H
                        replace H : (if 2 + t130.size + 3 + t131.size ≤ 9223372036854775807 then (if x4_1.size + 2 + t130.size + 3 + t131.size ≤ 140737488355328 then (head_Of.l0 kj11 (x4_1 ++ ((((⟨#[44, 32]⟩ : ByteArray) ++ t130) ++ (⟨#[59, 119, 61]⟩ : ByteArray)) ++ t131)) l0 (l0.length : Int) (wrap64 (x10_1 + 1)) ((rd_T26 l0 x10_1).f0) ((rd_T26 l0 x10_1).f1) ((rd_T26 l0 x10_1).f2) ((rd_T26 l0 x10_1).f3) ((rd_T26 l0 x10_1).f4)) else (none)) else (none)) = some r := H
                        have A27 := Aside0.mk A270
                        clear A270
                        by_cases c28 : 2 + t130.size + 3 + t131.size ≤ 9223372036854775807
                        · rw [if_pos c28] at H
                          have c28b0 := eq_true c28
                          have c28b1 : decide (2 + t130.size + 3 + t131.size ≤ 9223372036854775807) = true := decide_eq_true c28
                          try have c28b2 : (9223372036854775807 < 2 + t130.size + 3 + t131.size) = False := eq_false (Nat.not_lt.2 c28)
                          by_cases c29 : x4_1.size + 2 + t130.size + 3 + t131.size ≤ 140737488355328
                          · rw [if_pos c29] at H
                            have c29b0 := eq_true c29
                            have c29b1 : decide (x4_1.size + 2 + t130.size + 3 + t131.size ≤ 140737488355328) = true := decide_eq_true c29
                            try have c29b2 : (140737488355328 < x4_1.size + 2 + t130.size + 3 + t131.size) = False := eq_false (Nat.not_lt.2 c29)
                            have H' := Aside0.mk H
                            clear H
                            have hnb30 := NB128_126.out
                            have hnc30 := NB126_128.out
                            have hcz31_0 : wc.cell? ⟨gb128, 0, none⟩ = some (.int .i64 ((rd_T26 l0 x10_1).f0)) := (blk_cell BK128.out 0).trans rfl
                            have hcz31_1 : wc.cell? ⟨gb128, 1, none⟩ = some (.int .i64 ((rd_T26 l0 x10_1).f1)) := (blk_cell BK128.out 1).trans rfl
                            have hcz31_2 : wc.cell? ⟨gb128, 2, none⟩ = some (.int .i64 ((rd_T26 l0 x10_1).f2)) := (blk_cell BK128.out 2).trans rfl
                            have hcz31_3 : wc.cell? ⟨gb128, 3, none⟩ = some (.int .i64 ((rd_T26 l0 x10_1).f3)) := (blk_cell BK128.out 3).trans rfl
                            have hcz31_4 : wc.cell? ⟨gb128, 4, none⟩ = some (.int .i64 ((rd_T26 l0 x10_1).f4)) := (blk_cell BK128.out 4).trans rfl
                            have hfz31_0 := blk_frozen BK128.out 0
                            have hfz31_1 := blk_frozen BK128.out 1
                            have hfz31_2 := blk_frozen BK128.out 2
                            have hfz31_3 := blk_frozen BK128.out 3
                            have hfz31_4 := blk_frozen BK128.out 4
                            have hcz32_0 : wc.cell? ⟨gb126, 0, none⟩ = some (.int .i64 x127000_1) := (blk_cell BK126.out 0).trans rfl
                            have hcz32_1 : wc.cell? ⟨gb126, 1, none⟩ = some (.int .i64 x127001_1) := (blk_cell BK126.out 1).trans rfl
                            have hcz32_2 : wc.cell? ⟨gb126, 2, none⟩ = some (.int .i64 x127002_1) := (blk_cell BK126.out 2).trans rfl
                            have hcz32_3 : wc.cell? ⟨gb126, 3, none⟩ = some (.int .i64 x127003_1) := (blk_cell BK126.out 3).trans rfl
                            have hcz32_4 : wc.cell? ⟨gb126, 4, none⟩ = some (.int .i64 x127004_1) := (blk_cell BK126.out 4).trans rfl
                            have hfz32_0 := blk_frozen BK126.out 0
                            have hfz32_1 := blk_frozen BK126.out 1
                            have hfz32_2 := blk_frozen BK126.out 2
                            have hfz32_3 := blk_frozen BK126.out 3
                            have hfz32_4 := blk_frozen BK126.out 4
                            go_wp2_with (first | ((with_reducible refine gate_callee (f := 40) rfl ?_); refine goesL_ (some 32) rfl rfl Try.func40 (by kernel_rfl) rfl #[.int .i64 ((rd_T26 l0 x10_1).f1)] rfl (by (try simp only [List.map_toArray, List.map_cons, List.map_nil]); first | done | rfl | (simp only [List.length_drop, List.length_take]; rfl)) ?_; (with_reducible refine (head_digits.calls kj11 ((rd_T26 l0 x10_1).f1) t130 _ A24.out).mono ?_); rintro e w33 ⟨rfl, hb⟩; refine ⟨_, rfl, ?_⟩; have nb_ := Aside0.mk (head_Of.bd_below (lo := w.heap.size) (b := gbB) (s := x4_1) (by (repeat (first | (with_reducible refine head_Of.bd_drewN ?_ _) | (with_reducible refine head_Of.bd_drew ?_) | (with_reducible refine head_Of.bd_alloc ?_ _) | (with_reducible refine head_Of.bd_set ?_ (by (repeat (first | (with_reducible refine head_Of.is_drewN ?_ _) | (with_reducible refine head_Of.is_drew ?_) | (with_reducible refine head_Of.is_alloc ?_ _) | (with_reducible refine head_Of.is_set ?_ _))); first | exact head_Of.is_mk BK126.out | exact head_Of.is_mk BK128.out) _ _))); exact BB.out) hb); clear BB; have BB := nb_; clear nb_; have n0_ := Aside0.mk (blk_below (g := gb126) (o := .cells #[.int .i64 ((rd_T26 l0 x10_1).f0), .int .i64 ((rd_T26 l0 x10_1).f1), .int .i64 ((rd_T26 l0 x10_1).f2), .int .i64 ((rd_T26 l0 x10_1).f3), .int .i64 ((rd_T26 l0 x10_1).f4)] 26 (0, 0)) (by (with_reducible repeat (first | refine blk_drewN ?_ _ | refine blk_drew ?_ | refine blk_alloc ?_ _)); refine blk_put (cs := #[.int .i64 ((rd_T26 l0 x10_1).f0), .int .i64 ((rd_T26 l0 x10_1).f1), .int .i64 ((rd_T26 l0 x10_1).f2), .int .i64 ((rd_T26 l0 x10_1).f3), .int .i64 x127004_1]) ?_ 4 _ rfl; (with_reducible repeat (first | refine blk_drewN ?_ _ | refine blk_drew ?_ | refine blk_alloc ?_ _)); refine blk_put (cs := #[.int .i64 ((rd_T26 l0 x10_1).f0), .int .i64 ((rd_T26 l0 x10_1).f1), .int .i64 ((rd_T26 l0 x10_1).f2), .int .i64 x127003_1, .int .i64 x127004_1]) ?_ 3 _ rfl; (with_reducible repeat (first | refine blk_drewN ?_ _ | refine blk_drew ?_ | refine blk_alloc ?_ _)); refine blk_put (cs := #[.int .i64 ((rd_T26 l0 x10_1).f0), .int .i64 ((rd_T26 l0 x10_1).f1), .int .i64 x127002_1, .int .i64 x127003_1, .int .i64 x127004_1]) ?_ 2 _ rfl; (with_reducible repeat (first | refine blk_drewN ?_ _ | refine blk_drew ?_ | refine blk_alloc ?_ _)); refine blk_put (cs := #[.int .i64 ((rd_T26 l0 x10_1).f0), .int .i64 x127001_1, .int .i64 x127002_1, .int .i64 x127003_1, .int .i64 x127004_1]) ?_ 1 _ rfl; (with_reducible repeat (first | refine blk_drewN ?_ _ | refine blk_drew ?_ | refine blk_alloc ?_ _)); refine blk_put (cs := #[.int .i64 x127000_1, .int .i64 x127001_1, .int .i64 x127002_1, .int .i64 x127003_1, .int .i64 x127004_1]) ?_ 0 _ rfl; (with_reducible repeat (first | refine blk_drewN ?_ _ | refine blk_drew ?_ | refine blk_alloc ?_ _)); exact BK126.out) hb); have n1_ := Aside0.mk (blk_below (g := gb128) (o := .cells #[.int .i64 ((rd_T26 l0 x10_1).f0), .int .i64 ((rd_T26 l0 x10_1).f1), .int .i64 ((rd_T26 l0 x10_1).f2), .int .i64 ((rd_T26 l0 x10_1).f3), .int .i64 ((rd_T26 l0 x10_1).f4)] 26 (0, 0)) (by (with_reducible repeat (first | refine blk_drewN ?_ _ | refine blk_drew ?_ | refine blk_alloc ?_ _)); refine blk_far ?_ NB128_126.out _; (with_reducible repeat (first | refine blk_drewN ?_ _ | refine blk_drew ?_ | refine blk_alloc ?_ _)); refine blk_far ?_ NB128_126.out _; (with_reducible repeat (first | refine blk_drewN ?_ _ | refine blk_drew ?_ | refine blk_alloc ?_ _)); refine blk_far ?_ NB128_126.out _; (with_reducible repeat (first | refine blk_drewN ?_ _ | refine blk_drew ?_ | refine blk_alloc ?_ _)); refine blk_far ?_ NB128_126.out _; (with_reducible repeat (first | refine blk_drewN ?_ _ | refine blk_drew ?_ | refine blk_alloc ?_ _)); refine blk_far ?_ NB128_126.out _; (with_reducible repeat (first | refine blk_drewN ?_ _ | refine blk_drew ?_ | refine blk_alloc ?_ _)); exact BK128.out) hb); have n2_ := Aside0.mk (below_step (by repeat (first | (with_reducible first | exact HB.out | apply below_alloc | apply pw_below_drewN | apply below_drew1 | refine below_set ?_ GE126.out | refine below_set ?_ GE128.out) | exact HB.out)) hb); clear BK126; clear BK128; clear HB; have BK126 := n0_; have BK128 := n1_; have HB := n2_; clear n0_ n1_ n2_; (try clear hb); (try clear hb2); (try clear hk); (try clear hi)) | ((with_reducible refine gate_callee (f := 40) rfl ?_); refine goesL_ (some 36) rfl rfl Try.func40 (by kernel_rfl) rfl #[.int .i64 t129] rfl (by (try simp only [List.map_toArray, List.map_cons, List.map_nil]); first | done | rfl | (simp only [List.length_drop, List.length_take]; rfl)) ?_; (with_reducible refine (head_digits.calls kj11 t129 t131 _ A27.out).mono ?_); rintro e w34 ⟨rfl, hb⟩; refine ⟨_, rfl, ?_⟩; have nb_ := Aside0.mk (head_Of.bd_below (lo := w.heap.size) (b := gbB) (s := x4_1) (by (repeat (first | (with_reducible refine head_Of.bd_drewN ?_ _) | (with_reducible refine head_Of.bd_drew ?_) | (with_reducible refine head_Of.bd_alloc ?_ _) | (with_reducible refine head_Of.bd_set ?_ (by (repeat (first | (with_reducible refine head_Of.is_drewN ?_ _) | (with_reducible refine head_Of.is_drew ?_) | (with_reducible refine head_Of.is_alloc ?_ _) | (with_reducible refine head_Of.is_set ?_ _))); first | exact head_Of.is_mk BK126.out | exact head_Of.is_mk BK128.out) _ _))); exact BB.out) hb); clear BB; have BB := nb_; clear nb_; have n0_ := Aside0.mk (blk_below (g := gb126) (o := .cells #[.int .i64 ((rd_T26 l0 x10_1).f0), .int .i64 ((rd_T26 l0 x10_1).f1), .int .i64 ((rd_T26 l0 x10_1).f2), .int .i64 ((rd_T26 l0 x10_1).f3), .int .i64 ((rd_T26 l0 x10_1).f4)] 26 (0, 0)) (by (with_reducible repeat (first | refine blk_drewN ?_ _ | refine blk_drew ?_ | refine blk_alloc ?_ _)); exact BK126.out) hb); have n1_ := Aside0.mk (blk_below (g := gb128) (o := .cells #[.int .i64 ((rd_T26 l0 x10_1).f0), .int .i64 ((rd_T26 l0 x10_1).f1), .int .i64 ((rd_T26 l0 x10_1).f2), .int .i64 ((rd_T26 l0 x10_1).f3), .int .i64 ((rd_T26 l0 x10_1).f4)] 26 (0, 0)) (by (with_reducible repeat (first | refine blk_drewN ?_ _ | refine blk_drew ?_ | refine blk_alloc ?_ _)); exact BK128.out) hb); have n2_ := Aside0.mk (below_step (by repeat (first | (with_reducible first | exact HB.out | apply below_alloc | apply pw_below_drewN | apply below_drew1 | refine below_set ?_ GE126.out | refine below_set ?_ GE128.out) | exact HB.out)) hb); clear BK126; clear BK128; clear HB; have BK126 := n0_; have BK128 := n1_; have HB := n2_; clear n0_ n1_ n2_; (try clear hb); (try clear hb2); (try clear hk); (try clear hi)) | ((with_reducible refine gate_callee (f := 39) rfl ?_); refine goesL_ (some 38) rfl rfl Try.func39 (by kernel_rfl) rfl #[.pointer (some ⟨gbB, 0, none⟩), .string ((((⟨#[44, 32]⟩ : ByteArray) ++ t130) ++ (⟨#[59, 119, 61]⟩ : ByteArray)) ++ t131)] rfl (by (try simp only [List.map_toArray, List.map_cons, List.map_nil]); first | done | rfl | (simp only [List.length_drop, List.length_take]; rfl)) ?_; (refine (head_Of.bd_write (lo := w.heap.size) (s := x4_1) ((((⟨#[44, 32]⟩ : ByteArray) ++ t130) ++ (⟨#[59, 119, 61]⟩ : ByteArray)) ++ t131) (by (repeat (first | (with_reducible refine head_Of.bd_drewN ?_ _) | (with_reducible refine head_Of.bd_drew ?_) | (with_reducible refine head_Of.bd_alloc ?_ _) | (with_reducible refine head_Of.bd_set ?_ (by (repeat (first | (with_reducible refine head_Of.is_drewN ?_ _) | (with_reducible refine head_Of.is_drew ?_) | (with_reducible refine head_Of.is_alloc ?_ _) | (with_reducible refine head_Of.is_set ?_ _))); first | exact head_Of.is_mk BK126.out | exact head_Of.is_mk BK128.out) _ _))); exact BB.out) (by have e2_ : (⟨#[44, 32]⟩ : ByteArray).size = 2 := rfl; have e3_ : (⟨#[59, 119, 61]⟩ : ByteArray).size = 3 := rfl; simp only [ByteArray.size_append, e2_, e3_]; first | omega | (simp only [eq_iff_iff, iff_true] at *; omega))).mono ?_); rintro e w39 ⟨rfl, hbd, hb⟩; refine ⟨_, rfl, ?_⟩; have nb_ := Aside0.mk hbd; have n0_ := Aside0.mk (head_Of.blk_b (g := gb126) (o := .cells #[.int .i64 ((rd_T26 l0 x10_1).f0), .int .i64 ((rd_T26 l0 x10_1).f1), .int .i64 ((rd_T26 l0 x10_1).f2), .int .i64 ((rd_T26 l0 x10_1).f3), .int .i64 ((rd_T26 l0 x10_1).f4)] 26 (0, 0)) (by (with_reducible repeat (first | refine blk_drewN ?_ _ | refine blk_drew ?_ | refine blk_alloc ?_ _)); exact BK126.out) hb GLB.out); have n2_ := Aside0.mk (head_Of.below_b (by repeat (first | (with_reducible first | exact HB.out | apply below_alloc | apply pw_below_drewN | apply below_drew1 | refine below_set ?_ GE126.out | refine below_set ?_ GE128.out) | exact HB.out)) hb GWB.out); clear BB; clear BK126; clear HB; (try clear BK128); have BB := nb_; have BK126 := n0_; have HB := n2_; clear nb_ n0_ n2_; clear hb hbd))
                            go_roundg kj11
                            case measure => have := HK1.out; have := HJ11.out; omega
                            case rel => exact ⟨(x4_1 ++ ((((⟨#[44, 32]⟩ : ByteArray) ++ t130) ++ (⟨#[59, 119, 61]⟩ : ByteArray)) ++ t131)), (wrap64 (x10_1 + 1)), (((rd_T26 l0 x10_1).f0)), (((rd_T26 l0 x10_1).f1)), (((rd_T26 l0 x10_1).f2)), (((rd_T26 l0 x10_1).f3)), (((rd_T26 l0 x10_1).f4)), (by first | rfl | (simp; done) | (simp [*]; done)), H', ⟨by have := HK1.out; have := HJ11.out; omega⟩, ⟨by (with_reducible repeat (first | refine blk_drewN ?_ _ | refine blk_drew ?_ | refine blk_alloc ?_ _)); exact BK126.out⟩, ⟨by (repeat (first | (with_reducible refine head_Of.bd_drewN ?_ _) | (with_reducible refine head_Of.bd_drew ?_) | (with_reducible refine head_Of.bd_alloc ?_ _) | (with_reducible refine head_Of.bd_set ?_ (by (repeat (first | (with_reducible refine head_Of.is_drewN ?_ _) | (with_reducible refine head_Of.is_drew ?_) | (with_reducible refine head_Of.is_alloc ?_ _) | (with_reducible refine head_Of.is_set ?_ _))); first | exact head_Of.is_mk BK126.out | exact head_Of.is_mk BK128.out) _ _))); exact BB.out⟩, ⟨by repeat (first | (with_reducible first | exact HB.out | apply below_alloc | apply pw_below_drewN | apply below_drew1 | refine below_set ?_ GE126.out | refine below_set ?_ GE128.out) | exact HB.out)⟩⟩
                          · rw [if_neg c29] at H
                            exact absurd H (by simp)
                        · rw [if_neg c28] at H
                          exact absurd H (by simp)
                      · rw [if_neg c26] at H
                        exact absurd H (by simp)
                    · rw [if_neg c25] at H
                      exact absurd H (by simp)
                  · replace c23 := Bool.eq_false_iff.mpr c23
                    subst c23
                    have H1 : ((head_digits.f kj11 ((rd_T26 l0 x10_1).f1)).bind fun t132 => (if 2 + t132.size ≤ 9223372036854775807 then (if 2 + t132.size + 3 ≤ 9223372036854775807 then ((head_digits.f kj11 t129).bind fun t133 => (if 2 + t132.size + 3 + t133.size ≤ 9223372036854775807 then (if x4_1.size + 2 + t132.size + 3 + t133.size ≤ 140737488355328 then (head_Of.l0 kj11 (x4_1 ++ ((((⟨#[44, 32]⟩ : ByteArray) ++ t132) ++ (⟨#[59, 119, 61]⟩ : ByteArray)) ++ t133)) l0 (l0.length : Int) (wrap64 (x10_1 + 1)) x127000_1 x127001_1 x127002_1 x127003_1 x127004_1) else (none)) else (none))) else (none)) else (none))) = some r := by rw [if_neg (show ¬ (false = true) by decide)] at H; exact H
                    clear H
                    have H := H1
                    clear H1
                    replace H := Option.bind_eq_some_iff.mp H
                    obtain ⟨t132, A350, H⟩ := H
                    replace H : (if 2 + t132.size ≤ 9223372036854775807 then (if 2 + t132.size + 3 ≤ 9223372036854775807 then ((head_digits.f kj11 t129).bind fun t133 => (if 2 + t132.size + 3 + t133.size ≤ 9223372036854775807 then (if x4_1.size + 2 + t132.size + 3 + t133.size ≤ 140737488355328 then (head_Of.l0 kj11 (x4_1 ++ ((((⟨#[44, 32]⟩ : ByteArray) ++ t132) ++ (⟨#[59, 119, 61]⟩ : ByteArray)) ++ t133)) l0 (l0.length : Int) (wrap64 (x10_1 + 1)) x127000_1 x127001_1 x127002_1 x127003_1 x127004_1) else (none)) else (none))) else (none)) else (none)) = some r := H
                    have A35 := Aside0.mk A350
                    clear A350
                    by_cases c36 : 2 + t132.size ≤ 9223372036854775807
                    · rw [if_pos c36] at H
                      have c36b0 := eq_true c36
                      have c36b1 : decide (2 + t132.size ≤ 9223372036854775807) = true := decide_eq_true c36
                      try have c36b2 : (9223372036854775807 < 2 + t132.size) = False := eq_false (Nat.not_lt.2 c36)
                      by_cases c37 : 2 + t132.size + 3 ≤ 9223372036854775807
                      · rw [if_pos c37] at H
                        have c37b0 := eq_true c37
                        have c37b1 : decide (2 + t132.size + 3 ≤ 9223372036854775807) = true := decide_eq_true c37
                        try have c37b2 : (9223372036854775807 < 2 + t132.size + 3) = False := eq_false (Nat.not_lt.2 c37)
                        replace H := Option.bind_eq_some_iff.mp H
                        obtain ⟨t133, A380, H⟩ := H
                        replace H : (if 2 + t132.size + 3 + t133.size ≤ 9223372036854775807 then (if x4_1.size + 2 + t132.size + 3 + t133.size ≤ 140737488355328 then (head_Of.l0 kj11 (x4_1 ++ ((((⟨#[44, 32]⟩ : ByteArray) ++ t132) ++ (⟨#[59, 119, 61]⟩ : ByteArray)) ++ t133)) l0 (l0.length : Int) (wrap64 (x10_1 + 1)) x127000_1 x127001_1 x127002_1 x127003_1 x127004_1) else (none)) else (none)) = some r := H
                        have A38 := Aside0.mk A380
                        clear A380
                        by_cases c39 : 2 + t132.size + 3 + t133.size ≤ 9223372036854775807
                        · rw [if_pos c39] at H
                          have c39b0 := eq_true c39
                          have c39b1 : decide (2 + t132.size + 3 + t133.size ≤ 9223372036854775807) = true := decide_eq_true c39
                          try have c39b2 : (9223372036854775807 < 2 + t132.size + 3 + t133.size) = False := eq_false (Nat.not_lt.2 c39)
                          by_cases c40 : x4_1.size + 2 + t132.size + 3 + t133.size ≤ 140737488355328
                          · rw [if_pos c40] at H
                            have c40b0 := eq_true c40
                            have c40b1 : decide (x4_1.size + 2 + t132.size + 3 + t133.size ≤ 140737488355328) = true := decide_eq_true c40
                            try have c40b2 : (140737488355328 < x4_1.size + 2 + t132.size + 3 + t133.size) = False := eq_false (Nat.not_lt.2 c40)
                            have H' := Aside0.mk H
                            clear H
                            have hnb41 := NB128_126.out
                            have hnc41 := NB126_128.out
                            have hcz42_0 : wc.cell? ⟨gb128, 0, none⟩ = some (.int .i64 ((rd_T26 l0 x10_1).f0)) := (blk_cell BK128.out 0).trans rfl
                            have hcz42_1 : wc.cell? ⟨gb128, 1, none⟩ = some (.int .i64 ((rd_T26 l0 x10_1).f1)) := (blk_cell BK128.out 1).trans rfl
                            have hcz42_2 : wc.cell? ⟨gb128, 2, none⟩ = some (.int .i64 ((rd_T26 l0 x10_1).f2)) := (blk_cell BK128.out 2).trans rfl
                            have hcz42_3 : wc.cell? ⟨gb128, 3, none⟩ = some (.int .i64 ((rd_T26 l0 x10_1).f3)) := (blk_cell BK128.out 3).trans rfl
                            have hcz42_4 : wc.cell? ⟨gb128, 4, none⟩ = some (.int .i64 ((rd_T26 l0 x10_1).f4)) := (blk_cell BK128.out 4).trans rfl
                            have hfz42_0 := blk_frozen BK128.out 0
                            have hfz42_1 := blk_frozen BK128.out 1
                            have hfz42_2 := blk_frozen BK128.out 2
                            have hfz42_3 := blk_frozen BK128.out 3
                            have hfz42_4 := blk_frozen BK128.out 4
                            go_wp2_with (first | ((with_reducible refine gate_callee (f := 40) rfl ?_); refine goesL_ (some 32) rfl rfl Try.func40 (by kernel_rfl) rfl #[.int .i64 ((rd_T26 l0 x10_1).f1)] rfl (by (try simp only [List.map_toArray, List.map_cons, List.map_nil]); first | done | rfl | (simp only [List.length_drop, List.length_take]; rfl)) ?_; (with_reducible refine (head_digits.calls kj11 ((rd_T26 l0 x10_1).f1) t132 _ A35.out).mono ?_); rintro e w43 ⟨rfl, hb⟩; refine ⟨_, rfl, ?_⟩; have nb_ := Aside0.mk (head_Of.bd_below (lo := w.heap.size) (b := gbB) (s := x4_1) (by (repeat (first | (with_reducible refine head_Of.bd_drewN ?_ _) | (with_reducible refine head_Of.bd_drew ?_) | (with_reducible refine head_Of.bd_alloc ?_ _) | (with_reducible refine head_Of.bd_set ?_ (by (repeat (first | (with_reducible refine head_Of.is_drewN ?_ _) | (with_reducible refine head_Of.is_drew ?_) | (with_reducible refine head_Of.is_alloc ?_ _) | (with_reducible refine head_Of.is_set ?_ _))); first | exact head_Of.is_mk BK126.out | exact head_Of.is_mk BK128.out) _ _))); exact BB.out) hb); clear BB; have BB := nb_; clear nb_; have n0_ := Aside0.mk (blk_below (g := gb126) (o := .cells #[.int .i64 x127000_1, .int .i64 x127001_1, .int .i64 x127002_1, .int .i64 x127003_1, .int .i64 x127004_1] 26 (0, 0)) (by (with_reducible repeat (first | refine blk_drewN ?_ _ | refine blk_drew ?_ | refine blk_alloc ?_ _)); exact BK126.out) hb); have n1_ := Aside0.mk (blk_below (g := gb128) (o := .cells #[.int .i64 ((rd_T26 l0 x10_1).f0), .int .i64 ((rd_T26 l0 x10_1).f1), .int .i64 ((rd_T26 l0 x10_1).f2), .int .i64 ((rd_T26 l0 x10_1).f3), .int .i64 ((rd_T26 l0 x10_1).f4)] 26 (0, 0)) (by (with_reducible repeat (first | refine blk_drewN ?_ _ | refine blk_drew ?_ | refine blk_alloc ?_ _)); exact BK128.out) hb); have n2_ := Aside0.mk (below_step (by repeat (first | (with_reducible first | exact HB.out | apply below_alloc | apply pw_below_drewN | apply below_drew1 | refine below_set ?_ GE126.out | refine below_set ?_ GE128.out) | exact HB.out)) hb); clear BK126; clear BK128; clear HB; have BK126 := n0_; have BK128 := n1_; have HB := n2_; clear n0_ n1_ n2_; (try clear hb); (try clear hb2); (try clear hk); (try clear hi)) | ((with_reducible refine gate_callee (f := 40) rfl ?_); refine goesL_ (some 36) rfl rfl Try.func40 (by kernel_rfl) rfl #[.int .i64 t129] rfl (by (try simp only [List.map_toArray, List.map_cons, List.map_nil]); first | done | rfl | (simp only [List.length_drop, List.length_take]; rfl)) ?_; (with_reducible refine (head_digits.calls kj11 t129 t133 _ A38.out).mono ?_); rintro e w44 ⟨rfl, hb⟩; refine ⟨_, rfl, ?_⟩; have nb_ := Aside0.mk (head_Of.bd_below (lo := w.heap.size) (b := gbB) (s := x4_1) (by (repeat (first | (with_reducible refine head_Of.bd_drewN ?_ _) | (with_reducible refine head_Of.bd_drew ?_) | (with_reducible refine head_Of.bd_alloc ?_ _) | (with_reducible refine head_Of.bd_set ?_ (by (repeat (first | (with_reducible refine head_Of.is_drewN ?_ _) | (with_reducible refine head_Of.is_drew ?_) | (with_reducible refine head_Of.is_alloc ?_ _) | (with_reducible refine head_Of.is_set ?_ _))); first | exact head_Of.is_mk BK126.out | exact head_Of.is_mk BK128.out) _ _))); exact BB.out) hb); clear BB; have BB := nb_; clear nb_; have n0_ := Aside0.mk (blk_below (g := gb126) (o := .cells #[.int .i64 x127000_1, .int .i64 x127001_1, .int .i64 x127002_1, .int .i64 x127003_1, .int .i64 x127004_1] 26 (0, 0)) (by (with_reducible repeat (first | refine blk_drewN ?_ _ | refine blk_drew ?_ | refine blk_alloc ?_ _)); exact BK126.out) hb); have n1_ := Aside0.mk (blk_below (g := gb128) (o := .cells #[.int .i64 ((rd_T26 l0 x10_1).f0), .int .i64 ((rd_T26 l0 x10_1).f1), .int .i64 ((rd_T26 l0 x10_1).f2), .int .i64 ((rd_T26 l0 x10_1).f3), .int .i64 ((rd_T26 l0 x10_1).f4)] 26 (0, 0)) (by (with_reducible repeat (first | refine blk_drewN ?_ _ | refine blk_drew ?_ | refine blk_alloc ?_ _)); exact BK128.out) hb); have n2_ := Aside0.mk (below_step (by repeat (first | (with_reducible first | exact HB.out | apply below_alloc | apply pw_below_drewN | apply below_drew1 | refine below_set ?_ GE126.out | refine below_set ?_ GE128.out) | exact HB.out)) hb); clear BK126; clear BK128; clear HB; have BK126 := n0_; have BK128 := n1_; have HB := n2_; clear n0_ n1_ n2_; (try clear hb); (try clear hb2); (try clear hk); (try clear hi)) | ((with_reducible refine gate_callee (f := 39) rfl ?_); refine goesL_ (some 38) rfl rfl Try.func39 (by kernel_rfl) rfl #[.pointer (some ⟨gbB, 0, none⟩), .string ((((⟨#[44, 32]⟩ : ByteArray) ++ t132) ++ (⟨#[59, 119, 61]⟩ : ByteArray)) ++ t133)] rfl (by (try simp only [List.map_toArray, List.map_cons, List.map_nil]); first | done | rfl | (simp only [List.length_drop, List.length_take]; rfl)) ?_; (refine (head_Of.bd_write (lo := w.heap.size) (s := x4_1) ((((⟨#[44, 32]⟩ : ByteArray) ++ t132) ++ (⟨#[59, 119, 61]⟩ : ByteArray)) ++ t133) (by (repeat (first | (with_reducible refine head_Of.bd_drewN ?_ _) | (with_reducible refine head_Of.bd_drew ?_) | (with_reducible refine head_Of.bd_alloc ?_ _) | (with_reducible refine head_Of.bd_set ?_ (by (repeat (first | (with_reducible refine head_Of.is_drewN ?_ _) | (with_reducible refine head_Of.is_drew ?_) | (with_reducible refine head_Of.is_alloc ?_ _) | (with_reducible refine head_Of.is_set ?_ _))); first | exact head_Of.is_mk BK126.out | exact head_Of.is_mk BK128.out) _ _))); exact BB.out) (by have e2_ : (⟨#[44, 32]⟩ : ByteArray).size = 2 := rfl; have e3_ : (⟨#[59, 119, 61]⟩ : ByteArray).size = 3 := rfl; simp only [ByteArray.size_append, e2_, e3_]; first | omega | (simp only [eq_iff_iff, iff_true] at *; omega))).mono ?_); rintro e w39 ⟨rfl, hbd, hb⟩; refine ⟨_, rfl, ?_⟩; have nb_ := Aside0.mk hbd; have n0_ := Aside0.mk (head_Of.blk_b (g := gb126) (o := .cells #[.int .i64 x127000_1, .int .i64 x127001_1, .int .i64 x127002_1, .int .i64 x127003_1, .int .i64 x127004_1] 26 (0, 0)) (by (with_reducible repeat (first | refine blk_drewN ?_ _ | refine blk_drew ?_ | refine blk_alloc ?_ _)); exact BK126.out) hb GLB.out); have n2_ := Aside0.mk (head_Of.below_b (by repeat (first | (with_reducible first | exact HB.out | apply below_alloc | apply pw_below_drewN | apply below_drew1 | refine below_set ?_ GE126.out | refine below_set ?_ GE128.out) | exact HB.out)) hb GWB.out); clear BB; clear BK126; clear HB; (try clear BK128); have BB := nb_; have BK126 := n0_; have HB := n2_; clear nb_ n0_ n2_; clear hb hbd))
                            go_roundg kj11
                            case measure => have := HK1.out; have := HJ11.out; omega
                            case rel => exact ⟨(x4_1 ++ ((((⟨#[44, 32]⟩ : ByteArray) ++ t132) ++ (⟨#[59, 119, 61]⟩ : ByteArray)) ++ t133)), (wrap64 (x10_1 + 1)), (x127000_1), (x127001_1), (x127002_1), (x127003_1), (x127004_1), (by first | rfl | (simp; done) | (simp [*]; done)), H', ⟨by have := HK1.out; have := HJ11.out; omega⟩, ⟨by (with_reducible repeat (first | refine blk_drewN ?_ _ | refine blk_drew ?_ | refine blk_alloc ?_ _)); exact BK126.out⟩, ⟨by (repeat (first | (with_reducible refine head_Of.bd_drewN ?_ _) | (with_reducible refine head_Of.bd_drew ?_) | (with_reducible refine head_Of.bd_alloc ?_ _) | (with_reducible refine head_Of.bd_set ?_ (by (repeat (first | (with_reducible refine head_Of.is_drewN ?_ _) | (with_reducible refine head_Of.is_drew ?_) | (with_reducible refine head_Of.is_alloc ?_ _) | (with_reducible refine head_Of.is_set ?_ _))); first | exact head_Of.is_mk BK126.out | exact head_Of.is_mk BK128.out) _ _))); exact BB.out⟩, ⟨by repeat (first | (with_reducible first | exact HB.out | apply below_alloc | apply pw_below_drewN | apply below_drew1 | refine below_set ?_ GE126.out | refine below_set ?_ GE128.out) | exact HB.out)⟩⟩
                          · rw [if_neg c40] at H
                            exact absurd H (by simp)
                        · rw [if_neg c39] at H
                          exact absurd H (by simp)
                      · rw [if_neg c37] at H
                        exact absurd H (by simp)
                    · rw [if_neg c36] at H
                      exact absurd H (by simp)
          · rw [if_neg c5] at H
            exact absurd H (by simp)
        · rw [if_neg c4] at H
          exact absurd H (by simp)
      · rw [if_neg c3] at H
        have c3b0 : decide (x10_1 < (l0.length : Int)) = false := decide_eq_false c3
        clear c3
        by_cases c45 : x127002_1 = 0
        · rw [if_pos c45] at H
          have c45b0 : (x127002_1 == 0) = true := beq_iff_eq.mpr c45
          have c45b1 : (x127002_1 != 0) = false := bne_eq_false_iff_eq.mpr c45
          clear c45
          obtain rfl := Option.some.inj H
          have hcz46_0 : wr.cell? ⟨gb126, 0, none⟩ = some (.int .i64 x127000_1) := (blk_cell BK126.out 0).trans rfl
          have hcz46_1 : wr.cell? ⟨gb126, 1, none⟩ = some (.int .i64 x127001_1) := (blk_cell BK126.out 1).trans rfl
          have hcz46_2 : wr.cell? ⟨gb126, 2, none⟩ = some (.int .i64 x127002_1) := (blk_cell BK126.out 2).trans rfl
          have hcz46_3 : wr.cell? ⟨gb126, 3, none⟩ = some (.int .i64 x127003_1) := (blk_cell BK126.out 3).trans rfl
          have hcz46_4 : wr.cell? ⟨gb126, 4, none⟩ = some (.int .i64 x127004_1) := (blk_cell BK126.out 4).trans rfl
          have hfz46_0 := blk_frozen BK126.out 0
          have hfz46_1 := blk_frozen BK126.out 1
          have hfz46_2 := blk_frozen BK126.out 2
          have hfz46_3 := blk_frozen BK126.out 3
          have hfz46_4 := blk_frozen BK126.out 4
          go_wp2
          go_ret
          exact ⟨_, by first | rfl | (simp [errW_none, errW_some] <;> rfl) | (simp [*, errW_none, errW_some] <;> rfl), by first | exact Kd.R_nil _ _ _ _ _ | exact Kd.N_nil _ _ _ _ _ | exact Kd.V_nil _ _ _ _ _ | exact Kd.Q_nil _ _ _ _ _ | exact Kd.S_nil _ _ _ _ _, by repeat (first | (with_reducible first | exact HB.out | apply below_alloc | apply pw_below_drewN | apply below_drew1 | refine below_set ?_ GE126.out) | exact HB.out)⟩
        · rw [if_neg c45] at H
          have c45b0 : (x127002_1 == 0) = false := beq_eq_false_iff_ne.mpr c45
          have c45b1 : (x127002_1 != 0) = true := bne_iff_ne.mpr c45
          replace H := Option.bind_eq_some_iff.mp H
          obtain ⟨t134, A470, H⟩ := H
          replace H : (if t134.size + x4_1.size ≤ 9223372036854775807 then ((head_digits.f k1 x127003_1).bind fun t135 => ((head_digits.f k1 x127004_1).bind fun t136 => ((ratio_Of.f (wrap64 (x127001_1 - x127003_1)) x127001_1).bind fun t137 => ((ratio_Text.f k1 t137).bind fun t138 => (some (([(⟨(⟨#[120, 45, 114, 97, 116, 101, 108, 105, 109, 105, 116, 45, 108, 105, 109, 105, 116]⟩ : ByteArray), t134 ++ x4_1⟩ : S31), (⟨(⟨#[120, 45, 114, 97, 116, 101, 108, 105, 109, 105, 116, 45, 114, 101, 109, 97, 105, 110, 105, 110, 103]⟩ : ByteArray), t135⟩ : S31), (⟨(⟨#[120, 45, 114, 97, 116, 101, 108, 105, 109, 105, 116, 45, 114, 101, 115, 101, 116]⟩ : ByteArray), t136⟩ : S31), (⟨(⟨#[120, 45, 114, 97, 116, 101, 108, 105, 109, 105, 116, 45, 108, 111, 97, 100]⟩ : ByteArray), t138⟩ : S31)] : List (S31)))))))) else (none)) = some r := H
          have A47 := Aside0.mk A470
          clear A470
          by_cases c48 : t134.size + x4_1.size ≤ 9223372036854775807
          · rw [if_pos c48] at H
            have c48b0 := eq_true c48
            have c48b1 : decide (t134.size + x4_1.size ≤ 9223372036854775807) = true := decide_eq_true c48
            try have c48b2 : (9223372036854775807 < t134.size + x4_1.size) = False := eq_false (Nat.not_lt.2 c48)
            replace H := Option.bind_eq_some_iff.mp H
            obtain ⟨t135, A490, H⟩ := H
            replace H : ((head_digits.f k1 x127004_1).bind fun t136 => ((ratio_Of.f (wrap64 (x127001_1 - x127003_1)) x127001_1).bind fun t137 => ((ratio_Text.f k1 t137).bind fun t138 => (some (([(⟨(⟨#[120, 45, 114, 97, 116, 101, 108, 105, 109, 105, 116, 45, 108, 105, 109, 105, 116]⟩ : ByteArray), t134 ++ x4_1⟩ : S31), (⟨(⟨#[120, 45, 114, 97, 116, 101, 108, 105, 109, 105, 116, 45, 114, 101, 109, 97, 105, 110, 105, 110, 103]⟩ : ByteArray), t135⟩ : S31), (⟨(⟨#[120, 45, 114, 97, 116, 101, 108, 105, 109, 105, 116, 45, 114, 101, 115, 101, 116]⟩ : ByteArray), t136⟩ : S31), (⟨(⟨#[120, 45, 114, 97, 116, 101, 108, 105, 109, 105, 116, 45, 108, 111, 97, 100]⟩ : ByteArray), t138⟩ : S31)] : List (S31))))))) = some r := H
            have A49 := Aside0.mk A490
            clear A490
            replace H := Option.bind_eq_some_iff.mp H
            obtain ⟨t136, A500, H⟩ := H
            replace H : ((ratio_Of.f (wrap64 (x127001_1 - x127003_1)) x127001_1).bind fun t137 => ((ratio_Text.f k1 t137).bind fun t138 => (some (([(⟨(⟨#[120, 45, 114, 97, 116, 101, 108, 105, 109, 105, 116, 45, 108, 105, 109, 105, 116]⟩ : ByteArray), t134 ++ x4_1⟩ : S31), (⟨(⟨#[120, 45, 114, 97, 116, 101, 108, 105, 109, 105, 116, 45, 114, 101, 109, 97, 105, 110, 105, 110, 103]⟩ : ByteArray), t135⟩ : S31), (⟨(⟨#[120, 45, 114, 97, 116, 101, 108, 105, 109, 105, 116, 45, 114, 101, 115, 101, 116]⟩ : ByteArray), t136⟩ : S31), (⟨(⟨#[120, 45, 114, 97, 116, 101, 108, 105, 109, 105, 116, 45, 108, 111, 97, 100]⟩ : ByteArray), t138⟩ : S31)] : List (S31)))))) = some r := H
            have A50 := Aside0.mk A500
            clear A500
            replace H := Option.bind_eq_some_iff.mp H
            obtain ⟨t137, A510, H⟩ := H
            replace H : ((ratio_Text.f k1 t137).bind fun t138 => (some (([(⟨(⟨#[120, 45, 114, 97, 116, 101, 108, 105, 109, 105, 116, 45, 108, 105, 109, 105, 116]⟩ : ByteArray), t134 ++ x4_1⟩ : S31), (⟨(⟨#[120, 45, 114, 97, 116, 101, 108, 105, 109, 105, 116, 45, 114, 101, 109, 97, 105, 110, 105, 110, 103]⟩ : ByteArray), t135⟩ : S31), (⟨(⟨#[120, 45, 114, 97, 116, 101, 108, 105, 109, 105, 116, 45, 114, 101, 115, 101, 116]⟩ : ByteArray), t136⟩ : S31), (⟨(⟨#[120, 45, 114, 97, 116, 101, 108, 105, 109, 105, 116, 45, 108, 111, 97, 100]⟩ : ByteArray), t138⟩ : S31)] : List (S31))))) = some r := H
            have A51 := Aside0.mk A510
            clear A510
            replace H := Option.bind_eq_some_iff.mp H
            obtain ⟨t138, A520, H⟩ := H
            replace H : (some (([(⟨(⟨#[120, 45, 114, 97, 116, 101, 108, 105, 109, 105, 116, 45, 108, 105, 109, 105, 116]⟩ : ByteArray), t134 ++ x4_1⟩ : S31), (⟨(⟨#[120, 45, 114, 97, 116, 101, 108, 105, 109, 105, 116, 45, 114, 101, 109, 97, 105, 110, 105, 110, 103]⟩ : ByteArray), t135⟩ : S31), (⟨(⟨#[120, 45, 114, 97, 116, 101, 108, 105, 109, 105, 116, 45, 114, 101, 115, 101, 116]⟩ : ByteArray), t136⟩ : S31), (⟨(⟨#[120, 45, 114, 97, 116, 101, 108, 105, 109, 105, 116, 45, 108, 111, 97, 100]⟩ : ByteArray), t138⟩ : S31)] : List (S31)))) = some r := H
            have A52 := Aside0.mk A520
            clear A520
            obtain ⟨y139, hy139⟩ : ∃ y_ : List (S31), y_ = (([(⟨(⟨#[120, 45, 114, 97, 116, 101, 108, 105, 109, 105, 116, 45, 108, 105, 109, 105, 116]⟩ : ByteArray), t134 ++ x4_1⟩ : S31), (⟨(⟨#[120, 45, 114, 97, 116, 101, 108, 105, 109, 105, 116, 45, 114, 101, 109, 97, 105, 110, 105, 110, 103]⟩ : ByteArray), t135⟩ : S31), (⟨(⟨#[120, 45, 114, 97, 116, 101, 108, 105, 109, 105, 116, 45, 114, 101, 115, 101, 116]⟩ : ByteArray), t136⟩ : S31), (⟨(⟨#[120, 45, 114, 97, 116, 101, 108, 105, 109, 105, 116, 45, 108, 111, 97, 100]⟩ : ByteArray), t138⟩ : S31)] : List (S31))) := ⟨_, rfl⟩
            replace H : (some y139) = some r := by first | (rw [hy139]; with_reducible exact H) | (have H2_ := (Option.bind_some _ _).symm.trans H; rw [hy139]; with_reducible exact H2_) | (have H2_ := (Option.bind_some _ _).symm.trans H; with_reducible exact H2_) | with_reducible exact H | (rw [hy139]; exact H) | exact H
            have Ny139 := Aside0.mk hy139
            clear hy139
            obtain rfl := Option.some.inj H
            have hcz53_0 : wr.cell? ⟨gb126, 0, none⟩ = some (.int .i64 x127000_1) := (blk_cell BK126.out 0).trans rfl
            have hcz53_1 : wr.cell? ⟨gb126, 1, none⟩ = some (.int .i64 x127001_1) := (blk_cell BK126.out 1).trans rfl
            have hcz53_2 : wr.cell? ⟨gb126, 2, none⟩ = some (.int .i64 x127002_1) := (blk_cell BK126.out 2).trans rfl
            have hcz53_3 : wr.cell? ⟨gb126, 3, none⟩ = some (.int .i64 x127003_1) := (blk_cell BK126.out 3).trans rfl
            have hcz53_4 : wr.cell? ⟨gb126, 4, none⟩ = some (.int .i64 x127004_1) := (blk_cell BK126.out 4).trans rfl
            have hfz53_0 := blk_frozen BK126.out 0
            have hfz53_1 := blk_frozen BK126.out 1
            have hfz53_2 := blk_frozen BK126.out 2
            have hfz53_3 := blk_frozen BK126.out 3
            have hfz53_4 := blk_frozen BK126.out 4
            try go_wp2
            have nb_ := Aside0.mk (head_Of.bd_drew BB.out)
            clear BB
            have BB := nb_
            clear nb_
            have n0_ := Aside0.mk (blk_drew BK126.out)
            have n1_ := Aside0.mk (below_drew1 HB.out)
            clear BK126
            clear HB
            have BK126 := n0_
            have HB := n1_
            clear n0_ n1_
            refine start_ (n := 26) (S := fun w' => w'.cell? ⟨gb126, 0, none⟩ = some (.int .i64 x127000_1) ∧ w'.cell? ⟨gb126, 1, none⟩ = some (.int .i64 x127001_1) ∧ w'.cell? ⟨gb126, 2, none⟩ = some (.int .i64 x127002_1) ∧ w'.cell? ⟨gb126, 3, none⟩ = some (.int .i64 x127003_1) ∧ w'.cell? ⟨gb126, 4, none⟩ = some (.int .i64 x127004_1)) (ds := []) #[false, false, false, false, false, false, false, false, false, false, false, false, false, false, false, false, false, false, false, false, false, false, false, false, false, false] (by kernel_rfl) rfl rfl ⟨(blk_cell BK126.out 0).trans rfl, (blk_cell BK126.out 1).trans rfl, (blk_cell BK126.out 2).trans rfl, (blk_cell BK126.out 3).trans rfl, (blk_cell BK126.out 4).trans rfl⟩ (fun hHeld => ?_); refine with_tabW head_Of.tab14 head_Of.bits14 (fun HT_ HW_ => ?_)
            generalize wr.drew = w54 at BB BK126 HB hHeld ⊢
            refine pure_ (i := 0) (N := some 43) (v := ?_) (a' := ?_) #[true, false, false, false, false, false, false, false, false, false, false, false, false, false, false, false, false, false, false, false, false, false, false, false, false, false] rfl rfl (any_of HT_.out (by kernel_rfl)) (fun _ _ _ h => h) (Or.inl ⟨by rfl, ?_⟩) ?_ ?_
            rotate_left
            · intro w'
              go_simp
              (first | with_reducible rfl | (rw [if_neg (by first | omega | (simp only [ByteArray.size_append] at *; omega) | (have hl_ : ∀ l_ : List UInt8, (⟨l_.toArray⟩ : ByteArray).size = l_.length := (fun l_ => by show l_.toArray.size = _; simp); simp only [ByteArray.size_append, hl_, List.length_cons, List.length_nil] at *; omega))]))
            rotate_left
            · simp only [Act.put, List.setIfInBounds_toArray, List.set_cons_zero, List.set_cons_succ, i64_w, i32_w]
              rfl
            refine pure_ (i := 6) (N := some 49) (v := ?_) (a' := ?_) #[true, false, false, false, false, false, true, false, false, false, false, false, false, false, false, false, false, false, false, false, false, false, false, false, false, false] rfl rfl (any_of HT_.out (by kernel_rfl)) (fun _ _ _ h => h) (Or.inl ⟨by rfl, ?_⟩) ?_ ?_
            rotate_left
            · intro w'
              go_simp
              (first | with_reducible rfl | (rw [if_neg (by first | omega | (simp only [ByteArray.size_append] at *; omega) | (have hl_ : ∀ l_ : List UInt8, (⟨l_.toArray⟩ : ByteArray).size = l_.length := (fun l_ => by show l_.toArray.size = _; simp); simp only [ByteArray.size_append, hl_, List.length_cons, List.length_nil] at *; omega))]))
            rotate_left
            · simp only [Act.put, List.setIfInBounds_toArray, List.set_cons_zero, List.set_cons_succ, i64_w, i32_w]
              rfl
            refine pure_ (i := 10) (N := some 53) (v := ?_) (a' := ?_) #[true, false, false, false, false, false, true, false, false, false, true, false, false, false, false, false, false, false, false, false, false, false, false, false, false, false] rfl rfl (any_of HT_.out (by kernel_rfl)) (fun _ _ _ h => h) (Or.inl ⟨by rfl, ?_⟩) ?_ ?_
            rotate_left
            · intro w'
              go_simp
              (first | with_reducible rfl | (rw [if_neg (by first | omega | (simp only [ByteArray.size_append] at *; omega) | (have hl_ : ∀ l_ : List UInt8, (⟨l_.toArray⟩ : ByteArray).size = l_.length := (fun l_ => by show l_.toArray.size = _; simp); simp only [ByteArray.size_append, hl_, List.length_cons, List.length_nil] at *; omega))]))
            rotate_left
            · simp only [Act.put, List.setIfInBounds_toArray, List.set_cons_zero, List.set_cons_succ, i64_w, i32_w]
              rfl
            refine pure_ (i := 14) (N := some 57) (v := ?_) (a' := ?_) #[true, false, false, false, false, false, true, false, false, false, true, false, false, false, true, false, false, false, false, false, false, false, false, false, false, false] rfl rfl (any_of HT_.out (by kernel_rfl)) (fun _ _ _ h => h) (Or.inl ⟨by rfl, ?_⟩) ?_ ?_
            rotate_left
            · intro w'
              go_simp
              (first | with_reducible rfl | (rw [if_neg (by first | omega | (simp only [ByteArray.size_append] at *; omega) | (have hl_ : ∀ l_ : List UInt8, (⟨l_.toArray⟩ : ByteArray).size = l_.length := (fun l_ => by show l_.toArray.size = _; simp); simp only [ByteArray.size_append, hl_, List.length_cons, List.length_nil] at *; omega))]))
            rotate_left
            · simp only [Act.put, List.setIfInBounds_toArray, List.set_cons_zero, List.set_cons_succ, i64_w, i32_w]
              rfl
            refine pure_ (i := 16) (N := some 59) (v := ?_) (a' := ?_) #[true, false, false, false, false, false, true, false, false, false, true, false, false, false, true, false, true, false, false, false, false, false, false, false, false, false] rfl rfl (any_of HT_.out (by kernel_rfl)) (fun _ _ _ h => h) (Or.inl ⟨by rfl, ?_⟩) ?_ ?_
            rotate_left
            · intro w'
              go_simp
              (first | with_reducible rfl | (rw [if_neg (by first | omega | (simp only [ByteArray.size_append] at *; omega) | (have hl_ : ∀ l_ : List UInt8, (⟨l_.toArray⟩ : ByteArray).size = l_.length := (fun l_ => by show l_.toArray.size = _; simp); simp only [ByteArray.size_append, hl_, List.length_cons, List.length_nil] at *; omega))]))
            rotate_left
            · simp only [Act.put, List.setIfInBounds_toArray, List.set_cons_zero, List.set_cons_succ, i64_w, i32_w]
              rfl
            refine pure_ (i := 19) (N := some 62) (v := ?_) (a' := ?_) #[true, false, false, false, false, false, true, false, false, false, true, false, false, false, true, false, true, false, false, true, false, false, false, false, false, false] rfl rfl (any_of HT_.out (by kernel_rfl)) (fun _ _ _ h => h) (Or.inl ⟨by rfl, ?_⟩) ?_ ?_
            rotate_left
            · intro w'
              go_simp
              (first | with_reducible rfl | (rw [if_neg (by first | omega | (simp only [ByteArray.size_append] at *; omega) | (have hl_ : ∀ l_ : List UInt8, (⟨l_.toArray⟩ : ByteArray).size = l_.length := (fun l_ => by show l_.toArray.size = _; simp); simp only [ByteArray.size_append, hl_, List.length_cons, List.length_nil] at *; omega))]))
            rotate_left
            · simp only [Act.put, List.setIfInBounds_toArray, List.set_cons_zero, List.set_cons_succ, i64_w, i32_w]
              rfl
            refine take_ (i := 1) (N := some 44) (v := ?_) (a' := ?_) #[true, true, false, false, false, false, true, false, false, false, true, false, false, false, true, false, true, false, false, true, false, false, false, false, false, false] rfl rfl (take_ofW HT_.out HW_.out (by kernel_rfl)) (fun _ _ _ h => h) (Or.inl ⟨by rfl, ?_⟩) hHeld ?_ ?_
            rotate_left
            · rintro w' ⟨s0, s1, s2, s3, s4⟩
              go_simp
              (first | with_reducible rfl | (rw [if_neg (by first | omega | (simp only [ByteArray.size_append] at *; omega) | (have hl_ : ∀ l_ : List UInt8, (⟨l_.toArray⟩ : ByteArray).size = l_.length := (fun l_ => by show l_.toArray.size = _; simp); simp only [ByteArray.size_append, hl_, List.length_cons, List.length_nil] at *; omega))]))
            rotate_left
            · simp only [Act.put, List.setIfInBounds_toArray, List.set_cons_zero, List.set_cons_succ, i64_w, i32_w]
              rfl
            refine take_ (i := 7) (N := some 50) (v := ?_) (a' := ?_) #[true, true, false, false, false, false, true, true, false, false, true, false, false, false, true, false, true, false, false, true, false, false, false, false, false, false] rfl rfl (take_ofW HT_.out HW_.out (by kernel_rfl)) (fun _ _ _ h => h) (Or.inl ⟨by rfl, ?_⟩) hHeld ?_ ?_
            rotate_left
            · rintro w' ⟨s0, s1, s2, s3, s4⟩
              go_simp
              (first | with_reducible rfl | (rw [if_neg (by first | omega | (simp only [ByteArray.size_append] at *; omega) | (have hl_ : ∀ l_ : List UInt8, (⟨l_.toArray⟩ : ByteArray).size = l_.length := (fun l_ => by show l_.toArray.size = _; simp); simp only [ByteArray.size_append, hl_, List.length_cons, List.length_nil] at *; omega))]))
            rotate_left
            · simp only [Act.put, List.setIfInBounds_toArray, List.set_cons_zero, List.set_cons_succ, i64_w, i32_w]
              rfl
            refine take_ (i := 11) (N := some 54) (v := ?_) (a' := ?_) #[true, true, false, false, false, false, true, true, false, false, true, true, false, false, true, false, true, false, false, true, false, false, false, false, false, false] rfl rfl (take_ofW HT_.out HW_.out (by kernel_rfl)) (fun _ _ _ h => h) (Or.inl ⟨by rfl, ?_⟩) hHeld ?_ ?_
            rotate_left
            · rintro w' ⟨s0, s1, s2, s3, s4⟩
              go_simp
              (first | with_reducible rfl | (rw [if_neg (by first | omega | (simp only [ByteArray.size_append] at *; omega) | (have hl_ : ∀ l_ : List UInt8, (⟨l_.toArray⟩ : ByteArray).size = l_.length := (fun l_ => by show l_.toArray.size = _; simp); simp only [ByteArray.size_append, hl_, List.length_cons, List.length_nil] at *; omega))]))
            rotate_left
            · simp only [Act.put, List.setIfInBounds_toArray, List.set_cons_zero, List.set_cons_succ, i64_w, i32_w]
              rfl
            refine take_ (i := 15) (N := some 58) (v := ?_) (a' := ?_) #[true, true, false, false, false, false, true, true, false, false, true, true, false, false, true, true, true, false, false, true, false, false, false, false, false, false] rfl rfl (take_ofW HT_.out HW_.out (by kernel_rfl)) (fun _ _ _ h => h) (Or.inl ⟨by rfl, ?_⟩) hHeld ?_ ?_
            rotate_left
            · rintro w' ⟨s0, s1, s2, s3, s4⟩
              go_simp
              (first | with_reducible rfl | (rw [if_neg (by first | omega | (simp only [ByteArray.size_append] at *; omega) | (have hl_ : ∀ l_ : List UInt8, (⟨l_.toArray⟩ : ByteArray).size = l_.length := (fun l_ => by show l_.toArray.size = _; simp); simp only [ByteArray.size_append, hl_, List.length_cons, List.length_nil] at *; omega))]))
            rotate_left
            · simp only [Act.put, List.setIfInBounds_toArray, List.set_cons_zero, List.set_cons_succ, i64_w, i32_w]
              rfl
            refine take_ (i := 17) (N := some 60) (v := ?_) (a' := ?_) #[true, true, false, false, false, false, true, true, false, false, true, true, false, false, true, true, true, true, false, true, false, false, false, false, false, false] rfl rfl (take_ofW HT_.out HW_.out (by kernel_rfl)) (fun _ _ _ h => h) (Or.inl ⟨by rfl, ?_⟩) hHeld ?_ ?_
            rotate_left
            · rintro w' ⟨s0, s1, s2, s3, s4⟩
              go_simp
              (first | with_reducible rfl | (rw [if_neg (by first | omega | (simp only [ByteArray.size_append] at *; omega) | (have hl_ : ∀ l_ : List UInt8, (⟨l_.toArray⟩ : ByteArray).size = l_.length := (fun l_ => by show l_.toArray.size = _; simp); simp only [ByteArray.size_append, hl_, List.length_cons, List.length_nil] at *; omega))]))
            rotate_left
            · simp only [Act.put, List.setIfInBounds_toArray, List.set_cons_zero, List.set_cons_succ, i64_w, i32_w]
              rfl
            refine pure_ (i := 18) (N := some 61) (v := ?_) (a' := ?_) #[true, true, false, false, false, false, true, true, false, false, true, true, false, false, true, true, true, true, true, true, false, false, false, false, false, false] rfl rfl (any_of HT_.out (by kernel_rfl)) (fun _ _ _ h => h) (Or.inl ⟨by rfl, ?_⟩) ?_ ?_
            rotate_left
            · intro w'
              go_simp
              (first | with_reducible rfl | (rw [if_neg (by first | omega | (simp only [ByteArray.size_append] at *; omega) | (have hl_ : ∀ l_ : List UInt8, (⟨l_.toArray⟩ : ByteArray).size = l_.length := (fun l_ => by show l_.toArray.size = _; simp); simp only [ByteArray.size_append, hl_, List.length_cons, List.length_nil] at *; omega))]))
            rotate_left
            · simp only [Act.put, List.setIfInBounds_toArray, List.set_cons_zero, List.set_cons_succ, i64_w, i32_w]
              rfl
            refine take_ (i := 20) (N := some 63) (v := ?_) (a' := ?_) #[true, true, false, false, false, false, true, true, false, false, true, true, false, false, true, true, true, true, true, true, true, false, false, false, false, false] rfl rfl (take_ofW HT_.out HW_.out (by kernel_rfl)) (fun _ _ _ h => h) (Or.inl ⟨by rfl, ?_⟩) hHeld ?_ ?_
            rotate_left
            · rintro w' ⟨s0, s1, s2, s3, s4⟩
              go_simp
              (first | with_reducible rfl | (rw [if_neg (by first | omega | (simp only [ByteArray.size_append] at *; omega) | (have hl_ : ∀ l_ : List UInt8, (⟨l_.toArray⟩ : ByteArray).size = l_.length := (fun l_ => by show l_.toArray.size = _; simp); simp only [ByteArray.size_append, hl_, List.length_cons, List.length_nil] at *; omega))]))
            rotate_left
            · simp only [Act.put, List.setIfInBounds_toArray, List.set_cons_zero, List.set_cons_succ, i64_w, i32_w]
              rfl
            refine one_ (i := 2) (N := some 45) #[true, true, true, false, false, false, true, true, false, false, true, true, false, false, true, true, true, true, true, true, true, false, false, false, false, false] rfl rfl (one_of HT_.out (by kernel_rfl)) (by decide) (fun K hK => ?_)
            refine goes_ Try.func40 (by kernel_rfl) rfl #[.int .i64 x127001_1] (by rfl) rfl rfl (by (try simp only [List.map_toArray, List.map_cons, List.map_nil]); first | done | rfl | (simp only [List.length_drop, List.length_take]; rfl)) ?_
            with_reducible refine (head_digits.calls k1 x127001_1 t134 _ A47.out).mono ?_
            rintro e w55 ⟨rfl, hb⟩
            refine ⟨_, rfl, ?_⟩
            have nb_ := Aside0.mk (head_Of.bd_below (lo := w.heap.size) (b := gbB) (s := x4_1) (by (repeat (first | (with_reducible refine head_Of.bd_drewN ?_ _) | (with_reducible refine head_Of.bd_drew ?_) | (with_reducible refine head_Of.bd_alloc ?_ _) | (with_reducible refine head_Of.bd_set ?_ (by (repeat (first | (with_reducible refine head_Of.is_drewN ?_ _) | (with_reducible refine head_Of.is_drew ?_) | (with_reducible refine head_Of.is_alloc ?_ _) | (with_reducible refine head_Of.is_set ?_ _))); first | exact head_Of.is_mk BK126.out | exact head_Of.is_mk BK128.out) _ _))); exact BB.out) hb)
            clear BB
            have BB := nb_
            clear nb_
            have n0_ := Aside0.mk (blk_below (g := gb126) (o := .cells #[.int .i64 x127000_1, .int .i64 x127001_1, .int .i64 x127002_1, .int .i64 x127003_1, .int .i64 x127004_1] 26 (0, 0)) (by (with_reducible repeat (first | refine blk_drewN ?_ _ | refine blk_drew ?_ | refine blk_alloc ?_ _)); exact BK126.out) hb)
            have n1_ := Aside0.mk (below_step (by repeat (first | (with_reducible first | exact HB.out | apply below_alloc | apply pw_below_drewN | apply below_drew1 | refine below_set ?_ GE126.out) | exact HB.out)) hb)
            clear BK126
            clear HB
            have BK126 := n0_
            have HB := n1_
            clear n0_ n1_
            (try clear hb)
            (try clear hb2)
            (try clear hk)
            (try clear hi)
            refine hK.out _ _ ⟨(blk_cell BK126.out 0).trans rfl, (blk_cell BK126.out 1).trans rfl, (blk_cell BK126.out 2).trans rfl, (blk_cell BK126.out 3).trans rfl, (blk_cell BK126.out 4).trans rfl⟩ (fun hHeld => ?_)
            clear hK K
            refine norm_ (a' := ?_) ?_ ?_
            rotate_left
            · show Act.put _ (some 45) _ = _
              simp only [Act.put, List.setIfInBounds_toArray, List.set_cons_zero, List.set_cons_succ, i64_w, i32_w]
              rfl
            refine one_ (i := 3) (N := some 46) #[true, true, true, true, false, false, true, true, false, false, true, true, false, false, true, true, true, true, true, true, true, false, false, false, false, false] rfl rfl (one_of HT_.out (by kernel_rfl)) (by decide) (fun K hK => ?_)
            refine goes_ Try.func41 (by kernel_rfl) rfl #[.pointer (some ⟨gbB, 0, none⟩)] (by rfl) rfl rfl (by (try simp only [List.map_toArray, List.map_cons, List.map_nil]); first | done | rfl | (simp only [List.length_drop, List.length_take]; rfl)) ?_
            refine (head_Of.bd_string (lo := w.heap.size) (s := x4_1) (by (repeat (first | (with_reducible refine head_Of.bd_drewN ?_ _) | (with_reducible refine head_Of.bd_drew ?_) | (with_reducible refine head_Of.bd_alloc ?_ _) | (with_reducible refine head_Of.bd_set ?_ (by (repeat (first | (with_reducible refine head_Of.is_drewN ?_ _) | (with_reducible refine head_Of.is_drew ?_) | (with_reducible refine head_Of.is_alloc ?_ _) | (with_reducible refine head_Of.is_set ?_ _))); first | exact head_Of.is_mk BK126.out | exact head_Of.is_mk BK128.out) _ _))); exact BB.out)).mono ?_
            rintro e w62 ⟨rfl, hb⟩
            refine ⟨_, rfl, ?_⟩
            have n0_ := Aside0.mk (head_Of.blk_b (g := gb126) (o := .cells #[.int .i64 x127000_1, .int .i64 x127001_1, .int .i64 x127002_1, .int .i64 x127003_1, .int .i64 x127004_1] 26 (0, 0)) (by (with_reducible repeat (first | refine blk_drewN ?_ _ | refine blk_drew ?_ | refine blk_alloc ?_ _)); exact BK126.out) hb GLB.out)
            have n1_ := Aside0.mk (head_Of.below_b (by repeat (first | (with_reducible first | exact HB.out | apply below_alloc | apply pw_below_drewN | apply below_drew1 | refine below_set ?_ GE126.out) | exact HB.out)) hb GWB.out)
            clear BK126
            clear HB
            clear BB
            have BK126 := n0_
            have HB := n1_
            clear n0_ n1_
            clear hb
            refine hK.out _ _ ⟨(blk_cell BK126.out 0).trans rfl, (blk_cell BK126.out 1).trans rfl, (blk_cell BK126.out 2).trans rfl, (blk_cell BK126.out 3).trans rfl, (blk_cell BK126.out 4).trans rfl⟩ (fun hHeld => ?_)
            clear hK K
            refine norm_ (a' := ?_) ?_ ?_
            rotate_left
            · show Act.put _ (some 46) _ = _
              simp only [Act.put, List.setIfInBounds_toArray, List.set_cons_zero, List.set_cons_succ, i64_w, i32_w]
              rfl
            refine pure_ (i := 4) (N := some 47) (v := ?_) (a' := ?_) #[true, true, true, true, true, false, true, true, false, false, true, true, false, false, true, true, true, true, true, true, true, false, false, false, false, false] rfl rfl (any_of HT_.out (by kernel_rfl)) (fun _ _ _ h => h) (Or.inl ⟨by rfl, ?_⟩) ?_ ?_
            rotate_left
            · intro w'
              go_simp
              (first | with_reducible rfl | (rw [if_neg (by first | omega | (simp only [ByteArray.size_append] at *; omega) | (have hl_ : ∀ l_ : List UInt8, (⟨l_.toArray⟩ : ByteArray).size = l_.length := (fun l_ => by show l_.toArray.size = _; simp); simp only [ByteArray.size_append, hl_, List.length_cons, List.length_nil] at *; omega))]))
            rotate_left
            · simp only [Act.put, List.setIfInBounds_toArray, List.set_cons_zero, List.set_cons_succ, i64_w, i32_w]
              rfl
            refine pure_ (i := 5) (N := some 48) (v := ?_) (a' := ?_) #[true, true, true, true, true, true, true, true, false, false, true, true, false, false, true, true, true, true, true, true, true, false, false, false, false, false] rfl rfl (any_of HT_.out (by kernel_rfl)) (fun _ _ _ h => h) (Or.inl ⟨by rfl, ?_⟩) ?_ ?_
            rotate_left
            · intro w'
              go_simp
              (first | with_reducible rfl | (rw [if_neg (by first | omega | (simp only [ByteArray.size_append] at *; omega) | (have hl_ : ∀ l_ : List UInt8, (⟨l_.toArray⟩ : ByteArray).size = l_.length := (fun l_ => by show l_.toArray.size = _; simp); simp only [ByteArray.size_append, hl_, List.length_cons, List.length_nil] at *; omega))]))
            rotate_left
            · simp only [Act.put, List.setIfInBounds_toArray, List.set_cons_zero, List.set_cons_succ, i64_w, i32_w]
              rfl
            refine one_ (i := 8) (N := some 51) #[true, true, true, true, true, true, true, true, true, false, true, true, false, false, true, true, true, true, true, true, true, false, false, false, false, false] rfl rfl (one_of HT_.out (by kernel_rfl)) (by decide) (fun K hK => ?_)
            refine goes_ Try.func40 (by kernel_rfl) rfl #[.int .i64 x127003_1] (by rfl) rfl rfl (by (try simp only [List.map_toArray, List.map_cons, List.map_nil]); first | done | rfl | (simp only [List.length_drop, List.length_take]; rfl)) ?_
            with_reducible refine (head_digits.calls k1 x127003_1 t135 _ A49.out).mono ?_
            rintro e w56 ⟨rfl, hb⟩
            refine ⟨_, rfl, ?_⟩
            have n0_ := Aside0.mk (blk_below (g := gb126) (o := .cells #[.int .i64 x127000_1, .int .i64 x127001_1, .int .i64 x127002_1, .int .i64 x127003_1, .int .i64 x127004_1] 26 (0, 0)) (by (with_reducible repeat (first | refine blk_drewN ?_ _ | refine blk_drew ?_ | refine blk_alloc ?_ _)); exact BK126.out) hb)
            have n1_ := Aside0.mk (below_step (by repeat (first | (with_reducible first | exact HB.out | apply below_alloc | apply pw_below_drewN | apply below_drew1 | refine below_set ?_ GE126.out) | exact HB.out)) hb)
            clear BK126
            clear HB
            have BK126 := n0_
            have HB := n1_
            clear n0_ n1_
            (try clear hb)
            (try clear hb2)
            (try clear hk)
            (try clear hi)
            refine hK.out _ _ ⟨(blk_cell BK126.out 0).trans rfl, (blk_cell BK126.out 1).trans rfl, (blk_cell BK126.out 2).trans rfl, (blk_cell BK126.out 3).trans rfl, (blk_cell BK126.out 4).trans rfl⟩ (fun hHeld => ?_)
            clear hK K
            refine norm_ (a' := ?_) ?_ ?_
            rotate_left
            · show Act.put _ (some 51) _ = _
              simp only [Act.put, List.setIfInBounds_toArray, List.set_cons_zero, List.set_cons_succ, i64_w, i32_w]
              rfl
            refine pure_ (i := 9) (N := some 52) (v := ?_) (a' := ?_) #[true, true, true, true, true, true, true, true, true, true, true, true, false, false, true, true, true, true, true, true, true, false, false, false, false, false] rfl rfl (any_of HT_.out (by kernel_rfl)) (fun _ _ _ h => h) (Or.inl ⟨by rfl, ?_⟩) ?_ ?_
            rotate_left
            · intro w'
              go_simp
              (first | with_reducible rfl | (rw [if_neg (by first | omega | (simp only [ByteArray.size_append] at *; omega) | (have hl_ : ∀ l_ : List UInt8, (⟨l_.toArray⟩ : ByteArray).size = l_.length := (fun l_ => by show l_.toArray.size = _; simp); simp only [ByteArray.size_append, hl_, List.length_cons, List.length_nil] at *; omega))]))
            rotate_left
            · simp only [Act.put, List.setIfInBounds_toArray, List.set_cons_zero, List.set_cons_succ, i64_w, i32_w]
              rfl
            refine one_ (i := 12) (N := some 55) #[true, true, true, true, true, true, true, true, true, true, true, true, true, false, true, true, true, true, true, true, true, false, false, false, false, false] rfl rfl (one_of HT_.out (by kernel_rfl)) (by decide) (fun K hK => ?_)
            refine goes_ Try.func40 (by kernel_rfl) rfl #[.int .i64 x127004_1] (by rfl) rfl rfl (by (try simp only [List.map_toArray, List.map_cons, List.map_nil]); first | done | rfl | (simp only [List.length_drop, List.length_take]; rfl)) ?_
            with_reducible refine (head_digits.calls k1 x127004_1 t136 _ A50.out).mono ?_
            rintro e w57 ⟨rfl, hb⟩
            refine ⟨_, rfl, ?_⟩
            have n0_ := Aside0.mk (blk_below (g := gb126) (o := .cells #[.int .i64 x127000_1, .int .i64 x127001_1, .int .i64 x127002_1, .int .i64 x127003_1, .int .i64 x127004_1] 26 (0, 0)) (by (with_reducible repeat (first | refine blk_drewN ?_ _ | refine blk_drew ?_ | refine blk_alloc ?_ _)); exact BK126.out) hb)
            have n1_ := Aside0.mk (below_step (by repeat (first | (with_reducible first | exact HB.out | apply below_alloc | apply pw_below_drewN | apply below_drew1 | refine below_set ?_ GE126.out) | exact HB.out)) hb)
            clear BK126
            clear HB
            have BK126 := n0_
            have HB := n1_
            clear n0_ n1_
            (try clear hb)
            (try clear hb2)
            (try clear hk)
            (try clear hi)
            refine hK.out _ _ ⟨(blk_cell BK126.out 0).trans rfl, (blk_cell BK126.out 1).trans rfl, (blk_cell BK126.out 2).trans rfl, (blk_cell BK126.out 3).trans rfl, (blk_cell BK126.out 4).trans rfl⟩ (fun hHeld => ?_)
            clear hK K
            refine norm_ (a' := ?_) ?_ ?_
            rotate_left
            · show Act.put _ (some 55) _ = _
              simp only [Act.put, List.setIfInBounds_toArray, List.set_cons_zero, List.set_cons_succ, i64_w, i32_w]
              rfl
            refine pure_ (i := 13) (N := some 56) (v := ?_) (a' := ?_) #[true, true, true, true, true, true, true, true, true, true, true, true, true, true, true, true, true, true, true, true, true, false, false, false, false, false] rfl rfl (any_of HT_.out (by kernel_rfl)) (fun _ _ _ h => h) (Or.inl ⟨by rfl, ?_⟩) ?_ ?_
            rotate_left
            · intro w'
              go_simp
              (first | with_reducible rfl | (rw [if_neg (by first | omega | (simp only [ByteArray.size_append] at *; omega) | (have hl_ : ∀ l_ : List UInt8, (⟨l_.toArray⟩ : ByteArray).size = l_.length := (fun l_ => by show l_.toArray.size = _; simp); simp only [ByteArray.size_append, hl_, List.length_cons, List.length_nil] at *; omega))]))
            rotate_left
            · simp only [Act.put, List.setIfInBounds_toArray, List.set_cons_zero, List.set_cons_succ, i64_w, i32_w]
              rfl
            refine one_ (i := 21) (N := some 64) #[true, true, true, true, true, true, true, true, true, true, true, true, true, true, true, true, true, true, true, true, true, true, false, false, false, false] rfl rfl (one_of HT_.out (by kernel_rfl)) (by decide) (fun K hK => ?_)
            refine goes_ Try.func21 (by kernel_rfl) rfl #[.int .i64 (wrap64 (x127001_1 - x127003_1)), .int .i64 x127001_1] (by rfl) rfl rfl (by (try simp only [List.map_toArray, List.map_cons, List.map_nil]); first | done | rfl | (simp only [List.length_drop, List.length_take]; rfl)) ?_
            with_reducible refine (ratio_Of.calls (wrap64 (x127001_1 - x127003_1)) x127001_1 t137 _ A51.out).mono ?_
            rintro e w' ⟨z_, hsz_, rfl, ⟨nd, rfl⟩⟩
            refine ⟨_, rfl, ?_⟩
            refine hK.out _ _ ⟨(blk_cell BK126.out 0).trans rfl, (blk_cell BK126.out 1).trans rfl, (blk_cell BK126.out 2).trans rfl, (blk_cell BK126.out 3).trans rfl, (blk_cell BK126.out 4).trans rfl⟩ (fun hHeld => ?_)
            clear hK K
            refine norm_ (a' := ?_) ?_ ?_
            rotate_left
            · show Act.put _ (some 64) _ = _
              simp only [Act.put, List.setIfInBounds_toArray, List.set_cons_zero, List.set_cons_succ, i64_w, i32_w]
              rfl
            refine one_ (i := 22) (N := some 65) #[true, true, true, true, true, true, true, true, true, true, true, true, true, true, true, true, true, true, true, true, true, true, true, false, false, false] rfl rfl (one_of HT_.out (by kernel_rfl)) (by decide) (fun K hK => ?_)
            refine goes_ Try.func37 (by kernel_rfl) rfl #[.float .f64 z_] (by rfl) rfl rfl (by (try simp only [List.map_toArray, List.map_cons, List.map_nil]); first | done | rfl | (simp only [List.length_drop, List.length_take]; rfl)) ?_
            with_reducible refine (ratio_Text.calls k1 z_ t138 _ (head_Of.text_sim hsz_ A52.out)).mono ?_
            rintro e w58 ⟨rfl, hb⟩
            refine ⟨_, rfl, ?_⟩
            have n0_ := Aside0.mk (blk_below (g := gb126) (o := .cells #[.int .i64 x127000_1, .int .i64 x127001_1, .int .i64 x127002_1, .int .i64 x127003_1, .int .i64 x127004_1] 26 (0, 0)) (by (with_reducible repeat (first | refine blk_drewN ?_ _ | refine blk_drew ?_ | refine blk_alloc ?_ _)); exact BK126.out) hb)
            have n1_ := Aside0.mk (below_step (by repeat (first | (with_reducible first | exact HB.out | apply below_alloc | apply pw_below_drewN | apply below_drew1 | refine below_set ?_ GE126.out) | exact HB.out)) hb)
            clear BK126
            clear HB
            have BK126 := n0_
            have HB := n1_
            clear n0_ n1_
            (try clear hb)
            (try clear hb2)
            (try clear hk)
            (try clear hi)
            refine hK.out _ _ ⟨(blk_cell BK126.out 0).trans rfl, (blk_cell BK126.out 1).trans rfl, (blk_cell BK126.out 2).trans rfl, (blk_cell BK126.out 3).trans rfl, (blk_cell BK126.out 4).trans rfl⟩ (fun hHeld => ?_)
            clear hK K
            refine norm_ (a' := ?_) ?_ ?_
            rotate_left
            · show Act.put _ (some 65) _ = _
              simp only [Act.put, List.setIfInBounds_toArray, List.set_cons_zero, List.set_cons_succ, i64_w, i32_w]
              rfl
            refine pure_ (i := 23) (N := some 66) (v := ?_) (a' := ?_) #[true, true, true, true, true, true, true, true, true, true, true, true, true, true, true, true, true, true, true, true, true, true, true, true, false, false] rfl rfl (any_of HT_.out (by kernel_rfl)) (fun _ _ _ h => h) (Or.inl ⟨by rfl, ?_⟩) ?_ ?_
            rotate_left
            · intro w'
              go_simp
              (first | with_reducible rfl | (rw [if_neg (by first | omega | (simp only [ByteArray.size_append] at *; omega) | (have hl_ : ∀ l_ : List UInt8, (⟨l_.toArray⟩ : ByteArray).size = l_.length := (fun l_ => by show l_.toArray.size = _; simp); simp only [ByteArray.size_append, hl_, List.length_cons, List.length_nil] at *; omega))]))
            rotate_left
            · simp only [Act.put, List.setIfInBounds_toArray, List.set_cons_zero, List.set_cons_succ, i64_w, i32_w]
              rfl
            refine one_ (i := 24) (N := some 67) #[true, true, true, true, true, true, true, true, true, true, true, true, true, true, true, true, true, true, true, true, true, true, true, true, true, false] rfl rfl (one_of HT_.out (by kernel_rfl)) (by decide) (fun K hK => ?_)
            refine Kd.R_lit_step k31 _ 31 ?hg (N := 67) ?hd (xs := ([(⟨(⟨#[120, 45, 114, 97, 116, 101, 108, 105, 109, 105, 116, 45, 108, 105, 109, 105, 116]⟩ : ByteArray), t134 ++ x4_1⟩ : S31), (⟨(⟨#[120, 45, 114, 97, 116, 101, 108, 105, 109, 105, 116, 45, 114, 101, 109, 97, 105, 110, 105, 110, 103]⟩ : ByteArray), t135⟩ : S31), (⟨(⟨#[120, 45, 114, 97, 116, 101, 108, 105, 109, 105, 116, 45, 114, 101, 115, 101, 116]⟩ : ByteArray), t136⟩ : S31), (⟨(⟨#[120, 45, 114, 97, 116, 101, 108, 105, 109, 105, 116, 45, 108, 111, 97, 100]⟩ : ByteArray), t138⟩ : S31)] : List (S31))) (inner := [.string (⟨#[120, 45, 114, 97, 116, 101, 108, 105, 109, 105, 116, 45, 108, 105, 109, 105, 116]⟩ : ByteArray), .string (t134 ++ x4_1), .string (⟨#[120, 45, 114, 97, 116, 101, 108, 105, 109, 105, 116, 45, 114, 101, 109, 97, 105, 110, 105, 110, 103]⟩ : ByteArray), .string t135, .string (⟨#[120, 45, 114, 97, 116, 101, 108, 105, 109, 105, 116, 45, 114, 101, 115, 101, 116]⟩ : ByteArray), .string t136, .string (⟨#[120, 45, 114, 97, 116, 101, 108, 105, 109, 105, 116, 45, 108, 111, 97, 100]⟩ : ByteArray), .string t138]) (ok := fun _ => True) (okp := fun _ => True) ?hr ?hp (fun _ hk => hk) trivial (Below.refl _ _) (Nat.le_refl _) (by simp) ?_; (case hd => rfl); (case hg => rfl); (case hr => first | (go_simp; done) | (go_simp; rfl)); (case hp => exact (Reps.c2 (show Kd.M k31 _ _ _ (⟨(⟨#[120, 45, 114, 97, 116, 101, 108, 105, 109, 105, 116, 45, 108, 105, 109, 105, 116]⟩ : ByteArray), t134 ++ x4_1⟩ : S31) [.string (⟨#[120, 45, 114, 97, 116, 101, 108, 105, 109, 105, 116, 45, 108, 105, 109, 105, 116]⟩ : ByteArray), .string (t134 ++ x4_1)] from (k31_mkM _ _ _ (⟨(⟨#[120, 45, 114, 97, 116, 101, 108, 105, 109, 105, 116, 45, 108, 105, 109, 105, 116]⟩ : ByteArray), t134 ++ x4_1⟩ : S31) )) (Reps.c2 (show Kd.M k31 _ _ _ (⟨(⟨#[120, 45, 114, 97, 116, 101, 108, 105, 109, 105, 116, 45, 114, 101, 109, 97, 105, 110, 105, 110, 103]⟩ : ByteArray), t135⟩ : S31) [.string (⟨#[120, 45, 114, 97, 116, 101, 108, 105, 109, 105, 116, 45, 114, 101, 109, 97, 105, 110, 105, 110, 103]⟩ : ByteArray), .string t135] from (k31_mkM _ _ _ (⟨(⟨#[120, 45, 114, 97, 116, 101, 108, 105, 109, 105, 116, 45, 114, 101, 109, 97, 105, 110, 105, 110, 103]⟩ : ByteArray), t135⟩ : S31) )) (Reps.c2 (show Kd.M k31 _ _ _ (⟨(⟨#[120, 45, 114, 97, 116, 101, 108, 105, 109, 105, 116, 45, 114, 101, 115, 101, 116]⟩ : ByteArray), t136⟩ : S31) [.string (⟨#[120, 45, 114, 97, 116, 101, 108, 105, 109, 105, 116, 45, 114, 101, 115, 101, 116]⟩ : ByteArray), .string t136] from (k31_mkM _ _ _ (⟨(⟨#[120, 45, 114, 97, 116, 101, 108, 105, 109, 105, 116, 45, 114, 101, 115, 101, 116]⟩ : ByteArray), t136⟩ : S31) )) (Reps.c2 (show Kd.M k31 _ _ _ (⟨(⟨#[120, 45, 114, 97, 116, 101, 108, 105, 109, 105, 116, 45, 108, 111, 97, 100]⟩ : ByteArray), t138⟩ : S31) [.string (⟨#[120, 45, 114, 97, 116, 101, 108, 105, 109, 105, 116, 45, 108, 111, 97, 100]⟩ : ByteArray), .string t138] from (k31_mkM _ _ _ (⟨(⟨#[120, 45, 114, 97, 116, 101, 108, 105, 109, 105, 116, 45, 108, 111, 97, 100]⟩ : ByteArray), t138⟩ : S31) )) (Reps.none _ _))))))
            intro v140 w59 ho60 hb hg_ hnew_
            clear hg_ hnew_
            (first | rw [← Ny139.out] at ho60 | (simp only [Int.reduceToNat] at ho60; rw [← Ny139.out] at ho60))
            have n0_ := Aside0.mk (Kd.R_lower ho60 (below_size (by repeat (first | (with_reducible first | exact HB.out | apply below_alloc | apply pw_below_drewN | apply below_drew1 | refine below_set ?_ GE126.out) | exact HB.out))))
            have n1_ := Aside0.mk (blk_below (g := gb126) (o := .cells #[.int .i64 x127000_1, .int .i64 x127001_1, .int .i64 x127002_1, .int .i64 x127003_1, .int .i64 x127004_1] 26 (0, 0)) (by (with_reducible repeat (first | refine blk_drewN ?_ _ | refine blk_drew ?_ | refine blk_alloc ?_ _)); exact BK126.out) hb)
            have n2_ := Aside0.mk (below_step (by repeat (first | (with_reducible first | exact HB.out | apply below_alloc | apply pw_below_drewN | apply below_drew1 | refine below_set ?_ GE126.out) | exact HB.out)) hb)
            clear BK126
            clear HB
            have HO141 := n0_
            have BK126 := n1_
            have HB := n2_
            clear n0_ n1_ n2_
            clear hb ho60
            refine hK.out _ _ ⟨(blk_cell BK126.out 0).trans rfl, (blk_cell BK126.out 1).trans rfl, (blk_cell BK126.out 2).trans rfl, (blk_cell BK126.out 3).trans rfl, (blk_cell BK126.out 4).trans rfl⟩ (fun hHeld => ?_)
            clear hK K
            refine norm_ (a' := ?_) ?_ ?_
            rotate_left
            · show Act.put _ (some 67) _ = _
              simp only [Act.put, List.setIfInBounds_toArray, List.set_cons_zero, List.set_cons_succ, i64_w, i32_w]
              rfl
            refine pure_ (i := 25) (N := some 2) (v := ?_) (a' := ?_) #[true, true, true, true, true, true, true, true, true, true, true, true, true, true, true, true, true, true, true, true, true, true, true, true, true, true] rfl rfl (any_of HT_.out (by kernel_rfl)) (fun _ _ _ h => h) (Or.inl ⟨by rfl, ?_⟩) ?_ ?_
            rotate_left
            · intro w'
              go_simp
              (first | with_reducible rfl | (rw [if_neg (by first | omega | (simp only [ByteArray.size_append] at *; omega) | (have hl_ : ∀ l_ : List UInt8, (⟨l_.toArray⟩ : ByteArray).size = l_.length := (fun l_ => by show l_.toArray.size = _; simp); simp only [ByteArray.size_append, hl_, List.length_cons, List.length_nil] at *; omega))]))
            rotate_left
            · simp only [Act.put, List.setIfInBounds_toArray, List.set_cons_zero, List.set_cons_succ, i64_w, i32_w]
              rfl
            refine done_ (done_of HT_.out (by kernel_rfl)) ?_
            try go_wp2
            go_ret
            exact ⟨_, by first | rfl | (simp [errW_none, errW_some] <;> rfl) | (simp [*, errW_none, errW_some] <;> rfl), by (with_reducible repeat (first | apply Kd.R_alloc | apply Kd.R_drewN | apply Kd.R_drew)); exact HO141.out, by repeat (first | (with_reducible first | exact HB.out | apply below_alloc | apply pw_below_drewN | apply below_drew1 | refine below_set ?_ GE126.out) | exact HB.out)⟩
          · rw [if_neg c48] at H
            exact absurd H (by simp)

end Go.Proofs.Ytoopmkinpandfaa.PHeadOf
