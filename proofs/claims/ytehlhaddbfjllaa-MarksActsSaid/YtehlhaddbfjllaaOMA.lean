/- Maps of texts to numbers, and what counts in them: a part of the proof. -/
import Derived.Test.YtehlhaddbfjllaaOSB
import Derived.Test.YtehlhaddbfjllaaOIter2
import Derived.Deep.CutBlock
import Derived.Deep.RegionHeld3
namespace Go.Proofs.Ytehlhaddbfjllaa.Mp
open Go.RowKit Go.Sort Go.Proofs.YtehlhaddbfjllaaW.PrintWords Go.Proofs.YtehlhaddbfjllaaW.PrintLast Go.Maps Go.WideMaps
set_option maxRecDepth 100000
set_option linter.unusedVariables false
attribute [local go_sem ↓] Go.wp_at_zero Go.wp_at_succ
theorem gtr_str (t : TypeId) (a b : ByteArray) : binOp .gtr t (.string a) (.string b) = pure (.bool !(Op.bytesLess a.toList b.toList || a.toList == b.toList)) := by simp [binOp, Op.stringOp]
attribute [local go_sem] gtr_str
/-! How two keys are compared. -/
def cmpI (x y : Int) : Int := if x < y then -1 else if y < x then 1 else 0
def cmpS (x y : ByteArray) : Int := if x.data.toList < y.data.toList then -1 else if y.data.toList < x.data.toList then 1 else 0
def cmpM (K : List KV) (x y : ByteArray) : Int := if cmpI (getK K x) (getK K y) = 0 then cmpS x y else cmpI (getK K x) (getK K y)
theorem nan_int (x : Int) (w : World) : Calls Try.prog 72 #[.int .i64 x] w fun e w' => e = .returned (.bool false) ∧ w = w' := by
  go_enter Try.func72, Try.ntmps72
  go_wp2
  go_ret
  exact ⟨by simp, rfl⟩
theorem nan_str (x : ByteArray) (w : World) : Calls Try.prog 73 #[.string x] w fun e w' => e = .returned (.bool false) ∧ w = w' := by
  go_enter Try.func73, Try.ntmps73
  go_wp2
  go_ret
  exact ⟨by simp, rfl⟩
set_option maxHeartbeats 1000000 in
theorem cmpI_any (x y : Int) (w : World) : Calls Try.prog 60 #[.int .i64 x, .int .i64 y] w fun e w' => e = .returned (.int .i64 (cmpI x y)) ∧ w = w' := by
  by_cases h1 : x < y
  · have d1 : decide (x < y) = true := decide_eq_true h1
    have HC := Lib.hid (show cmpI x y = -1 from if_pos h1)
    clear h1
    go_enter Try.func60, Try.ntmps60
    go_wp2_with (go_at_call 72; refine (nan_int _ _).mono ?_; rintro e w' ⟨rfl, rfl⟩)
    go_ret
    exact ⟨by rw [HC.out]; rfl, rfl⟩
  · have d1 : decide (x < y) = false := decide_eq_false h1
    by_cases h2 : y < x
    · have d2 : decide (y < x) = true := decide_eq_true h2
      have HC := Lib.hid (show cmpI x y = 1 from (if_neg h1).trans (if_pos h2))
      clear h1 h2
      go_enter Try.func60, Try.ntmps60
      go_wp2_with (go_at_call 72; refine (nan_int _ _).mono ?_; rintro e w' ⟨rfl, rfl⟩)
      go_ret
      exact ⟨by rw [HC.out]; rfl, rfl⟩
    · have d2 : decide (y < x) = false := decide_eq_false h2
      have HC := Lib.hid (show cmpI x y = 0 from (if_neg h1).trans (if_neg h2))
      clear h1 h2
      go_enter Try.func60, Try.ntmps60
      go_wp2_with (go_at_call 72; refine (nan_int _ _).mono ?_; rintro e w' ⟨rfl, rfl⟩)
      go_ret
      exact ⟨by rw [HC.out]; rfl, rfl⟩
theorem bless (x y : ByteArray) : Op.bytesLess x.toList y.toList = decide (x.data.toList < y.data.toList) := by rw [bytesLess_eq, ByteArray.toList_eq, ByteArray.toList_eq]
set_option maxHeartbeats 1000000 in
theorem cmpS_any (x y : ByteArray) (w : World) : Calls Try.prog 61 #[.string x, .string y] w fun e w' => e = .returned (.int .i64 (cmpS x y)) ∧ w = w' := by
  by_cases h1 : x.data.toList < y.data.toList
  · have d1 : Op.bytesLess x.toList y.toList = true := (bless x y).trans (decide_eq_true h1)
    have HC := Lib.hid (show cmpS x y = -1 from if_pos h1)
    clear h1
    go_enter Try.func61, Try.ntmps61
    go_wp2_with (go_at_call 73; refine (nan_str _ _).mono ?_; rintro e w' ⟨rfl, rfl⟩)
    go_ret
    exact ⟨by rw [HC.out]; rfl, rfl⟩
  · have d1 : Op.bytesLess x.toList y.toList = false := (bless x y).trans (decide_eq_false h1)
    by_cases h2 : y.data.toList < x.data.toList
    · have d2 : (x.toList == y.toList) = false := by
        have : ¬ x.toList = y.toList := fun e => by rw [ByteArray.toList_eq, ByteArray.toList_eq] at e; rw [e] at h2; exact List.lt_irrefl _ h2
        simpa using this
      have HC := Lib.hid (show cmpS x y = 1 from (if_neg h1).trans (if_pos h2))
      clear h1 h2
      go_enter Try.func61, Try.ntmps61
      go_wp2_with (go_at_call 73; refine (nan_str _ _).mono ?_; rintro e w' ⟨rfl, rfl⟩)
      go_ret
      exact ⟨by rw [HC.out]; rfl, rfl⟩
    · have d2 : (x.toList == y.toList) = true := by
        have h3 : x.data.toList ≤ y.data.toList := h2
        have : x.toList = y.toList := by
          rw [ByteArray.toList_eq, ByteArray.toList_eq]
          rcases List.le_iff_lt_or_eq.1 h3 with h | h
          · exact absurd h h1
          · exact h
        simpa using this
      have HC := Lib.hid (show cmpS x y = 0 from (if_neg h1).trans (if_neg h2))
      clear h1 h2
      go_enter Try.func61, Try.ntmps61
      go_wp2_with (go_at_call 73; refine (nan_str _ _).mono ?_; rintro e w' ⟨rfl, rfl⟩)
      go_ret
      exact ⟨by rw [HC.out]; rfl, rfl⟩
set_option maxHeartbeats 1000000 in
theorem or_any (a b : Int) (w : World) (g : Nat) (hb : w.heap[g]? = some (.cells #[.int .i64 a, .int .i64 b] 3 (0, 0))) : Calls Try.prog 59 #[.slice (some ⟨g, 0, none⟩) 2 2] w fun e w' => e = .returned (.int .i64 (if a = 0 then b else a)) ∧ w = w' := by
  have c0 : w.cell? ⟨g, 0, none⟩ = some (.int .i64 a) := (blk_cell hb 0).trans rfl
  have c1 : w.cell? ⟨g, 1, none⟩ = some (.int .i64 b) := (blk_cell hb 1).trans rfl
  clear hb
  obtain ⟨v, hv⟩ : ∃ v, v = (if a = 0 then b else a) := ⟨_, rfl⟩
  rw [← hv]
  have HV := Lib.hid hv
  clear hv
  by_cases ha : a = 0
  · subst ha
    by_cases hb : b = 0
    · subst hb
      go_enter Try.func59, Try.ntmps59
      go_wp2
      refine wp_loop_rounds 3 ?_
      rw [rounds_succ]
      go_wp2
      rw [rounds_succ]
      go_wp2
      rw [rounds_succ]
      go_wp2
      go_ret
      exact ⟨by rw [HV.out]; rfl, rfl⟩
    · have d1 : (b == 0) = false := by simpa using hb
      have d2 : (b != 0) = true := by simpa using hb
      have HB := Lib.hid hb
      clear hb d1
      go_enter Try.func59, Try.ntmps59
      go_wp2
      refine wp_loop_rounds 3 ?_
      rw [rounds_succ]
      go_wp2
      rw [rounds_succ]
      go_wp2
      go_ret
      exact ⟨by rw [HV.out]; rfl, rfl⟩
  · have d1 : (a == 0) = false := by simpa using ha
    have d2 : (a != 0) = true := by simpa using ha
    have HC := Lib.hid (show v = a by rw [HV.out, if_neg ha])
    clear ha d1
    go_enter Try.func59, Try.ntmps59
    go_wp2
    refine wp_loop_rounds 3 ?_
    rw [rounds_succ]
    go_wp2
    go_ret
    exact ⟨by rw [HC.out]; rfl, rfl⟩
set_option maxHeartbeats 2000000 in
theorem rowcmp {w : World} {mb p B : Nat} {K : List KV} (hm : MI w mb K) (hB : w.cell? ⟨B, 0, none⟩ = some (.pointer (some ⟨p, 0, none⟩))) (hp : w.cell? ⟨p, 1, none⟩ = some (.map (some mb))) (x y : ByteArray) (hx : x.size ≤ 1000) (hy : y.size ≤ 1000) : Calls Try.prog 58 #[.string x, .string y, .pointer (some ⟨B, 0, none⟩)] w fun e w' => e = .returned (.int .i64 (cmpM K x y)) ∧ ∃ o, w' = w.drew.alloc o := by
  have l1 : (Instr.lookup 65 (.map (some mb)) (.string x) false).run Try.prog w = .ok (.int .i64 (getK K x)) w := hm.look x (by unfold maxLen; omega) false
  have l2 : (Instr.lookup 65 (.map (some mb)) (.string y) false).run Try.prog w = .ok (.int .i64 (getK K y)) w := hm.look y (by unfold maxLen; omega) false
  have hmd : MI w.drew mb K := hm.frm rfl
  have l3 : (Instr.lookup 65 (.map (some mb)) (.string x) false).run Try.prog w.drew = .ok (.int .i64 (getK K x)) w.drew := hmd.look x (by unfold maxLen; omega) false
  have l4 : (Instr.lookup 65 (.map (some mb)) (.string y) false).run Try.prog w.drew = .ok (.int .i64 (getK K y)) w.drew := hmd.look y (by unfold maxLen; omega) false
  have HM := Lib.hid (show cmpM K x y = if cmpI (getK K x) (getK K y) = 0 then cmpS x y else cmpI (getK K x) (getK K y) from rfl)
  have C1 := Aside0.mk (cmpI_any (getK K x) (getK K y))
  have C2 := Aside0.mk (cmpS_any x y)
  generalize cmpM K x y = cv at *
  generalize cmpI (getK K x) (getK K y) = ci at *
  generalize cmpS x y = cs at *
  have C3 : Aside0 (Calls Try.prog 59 #[.slice (some ⟨w.heap.size, 0, none⟩) 2 2] (w.alloc (.cells #[.int .i64 ci, .int .i64 cs] 3)).drew fun e w' => e = .returned (.int .i64 cv) ∧ (w.alloc (.cells #[.int .i64 ci, .int .i64 cs] 3)).drew = w') := ⟨by rw [HM.out]; exact or_any ci cs (w.alloc (.cells #[.int .i64 ci, .int .i64 cs] 3)).drew w.heap.size (blk_new w _)⟩
  clear hm hmd hx hy HM
  go_enter Try.func58, Try.ntmps58
  go_upto_region 1 with (fail)
  go_region_held3 (fun w' => w'.cell? ⟨B, 0, none⟩ = some (.pointer (some ⟨p, 0, none⟩)) ∧ w'.cell? ⟨p, 1, none⟩ = some (.map (some mb))) (go_keep) (first | (go_at_call 60; refine (C1.out _).mono ?_; rintro e w2 ⟨rfl, rfl⟩) | (go_at_call 61; refine (C2.out _).mono ?_; rintro e w3 ⟨rfl, rfl⟩) | (go_at_call 59; refine C3.out.mono ?_; rintro e w4 ⟨rfl, rfl⟩))
  all_goals go_wp2
  all_goals go_ret
  all_goals exact ⟨rfl, _, rfl⟩
end Go.Proofs.Ytehlhaddbfjllaa.Mp
