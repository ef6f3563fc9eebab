-- WRITTEN BY THIS SESSION'S mprint.py upon the print: some functions are proved by hand
import Derived.Test.YtofebccpghkmgaaPRuleSamex0
import Derived.Test.YtofebccpghkmgaaPRuleSamex1
import Derived.Test.YtofebccpghkmgaaPRuleSamex2
import Derived.Test.YtofebccpghkmgaaPRuleSamex7
namespace Go.Proofs.Ytofebccpghkmgaa.PRuleSame
open Go.RowKit Go.Proofs.YtofebccpghkmgaaW.PrintWords Go.Proofs.YtofebccpghkmgaaW.PrintLast Go.Proofs.YtofebccpghkmgaaW.PrintMore
attribute [local go_sem] max2_int min2_int max_two min_two max_three min_three max_four min_four   -- for this text's walks alone
set_option linter.unusedVariables false
set_option linter.unusedSimpArgs false

/-! ### turncocklaw16_RuleSame: function 3 -/
def turncocklaw16_RuleSame.f (k : Nat) (a0_0 : ByteArray) (a0_1 : Int) (a0_2 : Int) (a0_3 : Nat) (a0_4 : Bool) (a0_5 : Bool) (a1_0 : ByteArray) (a1_1 : Int) (a1_2 : Int) (a1_3 : Nat) (a1_4 : Bool) (a1_5 : Bool) (a2 : Int) (a3 : Int) : Option (Bool) := (turncocklaw16_of.f a0_0 a0_1 a0_2 a0_3 a0_4 a0_5 a2).bind fun bt244 => ((turncocklaw16_of.f a1_0 a1_1 a1_2 a1_3 a1_4 a1_5 a3).bind fun bt250 => ((rule_Same.f bt244.1 bt244.2.1 bt244.2.2.1 bt244.2.2.2.1 bt244.2.2.2.2.1 bt244.2.2.2.2.2 bt250.1 bt250.2.1 bt250.2.2.1 bt250.2.2.2.1 bt250.2.2.2.2.1 bt250.2.2.2.2.2).bind fun t258 => ((turncockref15_SameRule.f k bt244.1 bt244.2.1 bt244.2.2.1 bt244.2.2.2.1 bt244.2.2.2.2.1 bt244.2.2.2.2.2 bt250.1 bt250.2.1 bt250.2.2.1 bt250.2.2.2.1 bt250.2.2.2.2.1 bt250.2.2.2.2.2).bind fun t259 => (if (t258 == t259) = true then ((rule_Same.f bt244.1 bt244.2.1 bt244.2.2.1 bt244.2.2.2.1 bt244.2.2.2.2.1 bt244.2.2.2.2.2 bt244.1 bt244.2.1 bt244.2.2.1 bt244.2.2.2.1 bt244.2.2.2.2.1 bt244.2.2.2.2.2).bind fun t260 => (if t260 = true then ((rule_Same.f bt250.1 bt250.2.1 bt250.2.2.1 bt250.2.2.2.1 bt250.2.2.2.2.1 bt250.2.2.2.2.2 bt244.1 bt244.2.1 bt244.2.2.1 bt244.2.2.2.1 bt244.2.2.2.2.1 bt244.2.2.2.2.2).bind fun t261 => ((rule_Same.f bt244.1 bt244.2.1 bt244.2.2.1 bt244.2.2.2.1 bt244.2.2.2.2.1 bt244.2.2.2.2.2 bt250.1 bt250.2.1 bt250.2.2.1 bt250.2.2.2.1 bt250.2.2.2.2.1 bt250.2.2.2.2.2).bind fun t262 => (if (t261 == t262) = true then ((turncocklaw16_awake.f k).bind fun t263 => (some t263)) else (some false)))) else (some false))) else (some false)))))
theorem turncocklaw16_RuleSame.mono : ∀ a0 a1 a2 a3 a4 a5 a6 a7 a8 a9 a10 a11 a12 a13 k, LeO (turncocklaw16_RuleSame.f k a0 a1 a2 a3 a4 a5 a6 a7 a8 a9 a10 a11 a12 a13) (turncocklaw16_RuleSame.f (k + 1) a0 a1 a2 a3 a4 a5 a6 a7 a8 a9 a10 a11 a12 a13) := by
  intro a0 a1 a2 a3 a4 a5 a6 a7 a8 a9 a10 a11 a12 a13 k
  unfold turncocklaw16_RuleSame.f
  repeat' first
      | (with_reducible exact turncocklaw16_awake.mono _)
      | (with_reducible exact turncockref15_SameRule.mono _ _ _ _ _ _ _ _ _ _ _ _ _)
      | (with_reducible exact LeO.refl _)
      | (with_reducible exact LeO.none _)
      | (with_reducible refine LeO.ite ?_ ?_)
      | (with_reducible refine LeO.bind ?_ (fun _ => ?_))
      | exact turncocklaw16_awake.mono _
      | exact turncockref15_SameRule.mono _ _ _ _ _ _ _ _ _ _ _ _ _
      | exact LeO.none _
      | refine LeO.ite ?_ ?_
      | refine LeO.bind ?_ (fun _ => ?_)
def turncocklaw16_RuleSame.T1 : Bool × List (List Nat × List Nat) := (true, [([], []), ([], []), ([0, 1], [0, 1]), ([], []), ([], []), ([3, 4, 2], [3, 4]), ([], []), ([], []), ([6, 2, 5, 0, 1, 2, 6, 7], [2, 6]), ([7, 5, 8, 0, 1, 2, 3, 4, 5, 6, 7, 8], [5, 7])])
def turncocklaw16_RuleSame.B1 : List Nat := [0, 0, 3, 0, 0, 31, 0, 0, 255, 511]
theorem turncocklaw16_RuleSame.tab1 : rtab .any (opsOf Try.f3 1) = turncocklaw16_RuleSame.T1 := by kernel_rfl
theorem turncocklaw16_RuleSame.bits1 : waitsOk turncocklaw16_RuleSame.T1.2 turncocklaw16_RuleSame.B1 = true := by kernel_rfl
def turncocklaw16_RuleSame.T2 : Bool × List (List Nat × List Nat) := (true, [([], []), ([], []), ([0, 1], [0, 1]), ([], []), ([], []), ([3, 4, 2], [3, 4]), ([2, 5], [2, 5]), ([6, 5], [6]), ([7], [7]), ([7], [7]), ([8, 9, 7, 7], [7, 8, 9]), ([7, 10], [7, 10]), ([11, 10], [11]), ([12], [12]), ([12], [12]), ([13, 14, 12, 12], [12, 13, 14]), ([12], [12]), ([12], [12]), ([16, 17, 15, 12], [12, 16, 17]), ([15, 18, 12], [12, 15, 18]), ([12, 19], [12, 19]), ([20, 18], [20]), ([21, 21], [21]), ([21, 22], [21, 22]), ([23, 22, 0, 1, 2, 3, 4, 5, 6, 7, 8, 9, 10, 11, 12, 13, 14, 15, 16, 17, 18, 19, 20, 21, 22, 23], [23])])
def turncocklaw16_RuleSame.B2 : List Nat := [0, 0, 3, 0, 0, 31, 63, 127, 255, 255, 1023, 2047, 4095, 8191, 8191, 32767, 8191, 8191, 262143, 524287, 1048575, 2097151, 4194303, 8388607, 16777215]
theorem turncocklaw16_RuleSame.tab2 : rtab .any (opsOf Try.f3 2) = turncocklaw16_RuleSame.T2 := by kernel_rfl
theorem turncocklaw16_RuleSame.bits2 : waitsOk turncocklaw16_RuleSame.T2.2 turncocklaw16_RuleSame.B2 = true := by kernel_rfl
set_option maxHeartbeats 8000000 in
set_option maxRecDepth 100000 in
theorem turncocklaw16_RuleSame.calls (k : Nat) (a0_0 : ByteArray) (a0_1 : Int) (a0_2 : Int) (a0_3 : Nat) (a0_4 : Bool) (a0_5 : Bool) (a1_0 : ByteArray) (a1_1 : Int) (a1_2 : Int) (a1_3 : Nat) (a1_4 : Bool) (a1_5 : Bool) (a2 : Int) (a3 : Int) (r : Bool) (w : World) (h : turncocklaw16_RuleSame.f k a0_0 a0_1 a0_2 a0_3 a0_4 a0_5 a1_0 a1_1 a1_2 a1_3 a1_4 a1_5 a2 a3 = some r) (hr_ : r = true) :
    Calls Try.prog 3 #[.agg #[.string a0_0, .int .i64 a0_1, .int .i64 a0_2, .float .f64 a0_3, .bool a0_4, .bool a0_5], .agg #[.string a1_0, .int .i64 a1_1, .int .i64 a1_2, .float .f64 a1_3, .bool a1_4, .bool a1_5], .int .u64 a2, .int .u64 a3] w fun e w' => e = .returned (.bool r) ∧ Below w.heap.size w w' := by
  have hu24 := Try.underlying24
  have HB := Aside0.mk (Below.refl w.heap.size w)
  have H : ((turncocklaw16_of.f a0_0 a0_1 a0_2 a0_3 a0_4 a0_5 a2).bind fun bt244 => ((turncocklaw16_of.f a1_0 a1_1 a1_2 a1_3 a1_4 a1_5 a3).bind fun bt250 => ((rule_Same.f bt244.1 bt244.2.1 bt244.2.2.1 bt244.2.2.2.1 bt244.2.2.2.2.1 bt244.2.2.2.2.2 bt250.1 bt250.2.1 bt250.2.2.1 bt250.2.2.2.1 bt250.2.2.2.2.1 bt250.2.2.2.2.2).bind fun t258 => ((turncockref15_SameRule.f k bt244.1 bt244.2.1 bt244.2.2.1 bt244.2.2.2.1 bt244.2.2.2.2.1 bt244.2.2.2.2.2 bt250.1 bt250.2.1 bt250.2.2.1 bt250.2.2.2.1 bt250.2.2.2.2.1 bt250.2.2.2.2.2).bind fun t259 => (if (t258 == t259) = true then ((rule_Same.f bt244.1 bt244.2.1 bt244.2.2.1 bt244.2.2.2.1 bt244.2.2.2.2.1 bt244.2.2.2.2.2 bt244.1 bt244.2.1 bt244.2.2.1 bt244.2.2.2.1 bt244.2.2.2.2.1 bt244.2.2.2.2.2).bind fun t260 => (if t260 = true then ((rule_Same.f bt250.1 bt250.2.1 bt250.2.2.1 bt250.2.2.2.1 bt250.2.2.2.2.1 bt250.2.2.2.2.2 bt244.1 bt244.2.1 bt244.2.2.1 bt244.2.2.2.1 bt244.2.2.2.2.1 bt244.2.2.2.2.2).bind fun t261 => ((rule_Same.f bt244.1 bt244.2.1 bt244.2.2.1 bt244.2.2.2.1 bt244.2.2.2.2.1 bt244.2.2.2.2.2 bt250.1 bt250.2.1 bt250.2.2.1 bt250.2.2.2.1 bt250.2.2.2.2.1 bt250.2.2.2.2.2).bind fun t262 => (if (t261 == t262) = true then ((turncocklaw16_awake.f k).bind fun t263 => (some t263)) else (some false)))) else (some false))) else (some false)))))) = some r := h
  clear h
  replace H := Option.bind_eq_some_iff.mp H
  obtain ⟨⟨t244, t245, t246, t247, t248, t249⟩, A50, H⟩ := H
  replace H : ((turncocklaw16_of.f a1_0 a1_1 a1_2 a1_3 a1_4 a1_5 a3).bind fun bt250 => ((rule_Same.f t244 t245 t246 t247 t248 t249 bt250.1 bt250.2.1 bt250.2.2.1 bt250.2.2.2.1 bt250.2.2.2.2.1 bt250.2.2.2.2.2).bind fun t258 => ((turncockref15_SameRule.f k t244 t245 t246 t247 t248 t249 bt250.1 bt250.2.1 bt250.2.2.1 bt250.2.2.2.1 bt250.2.2.2.2.1 bt250.2.2.2.2.2).bind fun t259 => (if (t258 == t259) = true then ((rule_Same.f t244 t245 t246 t247 t248 t249 t244 t245 t246 t247 t248 t249).bind fun t260 => (if t260 = true then ((rule_Same.f bt250.1 bt250.2.1 bt250.2.2.1 bt250.2.2.2.1 bt250.2.2.2.2.1 bt250.2.2.2.2.2 t244 t245 t246 t247 t248 t249).bind fun t261 => ((rule_Same.f t244 t245 t246 t247 t248 t249 bt250.1 bt250.2.1 bt250.2.2.1 bt250.2.2.2.1 bt250.2.2.2.2.1 bt250.2.2.2.2.2).bind fun t262 => (if (t261 == t262) = true then ((turncocklaw16_awake.f k).bind fun t263 => (some t263)) else (some false)))) else (some false))) else (some false))))) = some r := H
  have A5 := Aside0.mk A50
  clear A50
  replace H := Option.bind_eq_some_iff.mp H
  obtain ⟨⟨t250, t251, t252, t253, t254, t255⟩, A60, H⟩ := H
  replace H : ((rule_Same.f t244 t245 t246 t247 t248 t249 t250 t251 t252 t253 t254 t255).bind fun t258 => ((turncockref15_SameRule.f k t244 t245 t246 t247 t248 t249 t250 t251 t252 t253 t254 t255).bind fun t259 => (if (t258 == t259) = true then ((rule_Same.f t244 t245 t246 t247 t248 t249 t244 t245 t246 t247 t248 t249).bind fun t260 => (if t260 = true then ((rule_Same.f t250 t251 t252 t253 t254 t255 t244 t245 t246 t247 t248 t249).bind fun t261 => ((rule_Same.f t244 t245 t246 t247 t248 t249 t250 t251 t252 t253 t254 t255).bind fun t262 => (if (t261 == t262) = true then ((turncocklaw16_awake.f k).bind fun t263 => (some t263)) else (some false)))) else (some false))) else (some false)))) = some r := H
  have A6 := Aside0.mk A60
  clear A60
  replace H := Option.bind_eq_some_iff.mp H
  obtain ⟨t258, A70, H⟩ := H
  replace H : ((turncockref15_SameRule.f k t244 t245 t246 t247 t248 t249 t250 t251 t252 t253 t254 t255).bind fun t259 => (if (t258 == t259) = true then ((rule_Same.f t244 t245 t246 t247 t248 t249 t244 t245 t246 t247 t248 t249).bind fun t260 => (if t260 = true then ((rule_Same.f t250 t251 t252 t253 t254 t255 t244 t245 t246 t247 t248 t249).bind fun t261 => ((rule_Same.f t244 t245 t246 t247 t248 t249 t250 t251 t252 t253 t254 t255).bind fun t262 => (if (t261 == t262) = true then ((turncocklaw16_awake.f k).bind fun t263 => (some t263)) else (some false)))) else (some false))) else (some false))) = some r := H
  have A7 := Aside0.mk A70
  clear A70
  replace H := Option.bind_eq_some_iff.mp H
  obtain ⟨t259, A80, H⟩ := H
  replace H : (if (t258 == t259) = true then ((rule_Same.f t244 t245 t246 t247 t248 t249 t244 t245 t246 t247 t248 t249).bind fun t260 => (if t260 = true then ((rule_Same.f t250 t251 t252 t253 t254 t255 t244 t245 t246 t247 t248 t249).bind fun t261 => ((rule_Same.f t244 t245 t246 t247 t248 t249 t250 t251 t252 t253 t254 t255).bind fun t262 => (if (t261 == t262) = true then ((turncocklaw16_awake.f k).bind fun t263 => (some t263)) else (some false)))) else (some false))) else (some false)) = some r := H
  have A8 := Aside0.mk A80
  clear A80
  by_cases c9 : (t258 == t259) = true
  · rw [if_pos c9] at H
    have c9b0 : (t258 == t259) = true := c9
    (try (have c9b1 : decide (t258 = t259) = true := by simpa using c9))
    (try (have c9b2 : (t258 == t259) = true := by simpa using c9))
    clear c9
    replace H := Option.bind_eq_some_iff.mp H
    obtain ⟨t260, A100, H⟩ := H
    replace H : (if t260 = true then ((rule_Same.f t250 t251 t252 t253 t254 t255 t244 t245 t246 t247 t248 t249).bind fun t261 => ((rule_Same.f t244 t245 t246 t247 t248 t249 t250 t251 t252 t253 t254 t255).bind fun t262 => (if (t261 == t262) = true then ((turncocklaw16_awake.f k).bind fun t263 => (some t263)) else (some false)))) else (some false)) = some r := H
    have A10 := Aside0.mk A100
    clear A100
    by_cases c11 : t260 = true
    · subst c11
      have H1 : ((rule_Same.f t250 t251 t252 t253 t254 t255 t244 t245 t246 t247 t248 t249).bind fun t261 => ((rule_Same.f t244 t245 t246 t247 t248 t249 t250 t251 t252 t253 t254 t255).bind fun t262 => (if (t261 == t262) = true then ((turncocklaw16_awake.f k).bind fun t263 => (some t263)) else (some false)))) = some r := by rw [if_pos rfl] at H; exact H
      clear H
      have H := H1
      clear H1
      replace H := Option.bind_eq_some_iff.mp H
      obtain ⟨t261, A120, H⟩ := H
      replace H : ((rule_Same.f t244 t245 t246 t247 t248 t249 t250 t251 t252 t253 t254 t255).bind fun t262 => (if (t261 == t262) = true then ((turncocklaw16_awake.f k).bind fun t263 => (some t263)) else (some false))) = some r := H
      have A12 := Aside0.mk A120
      clear A120
      replace H := Option.bind_eq_some_iff.mp H
      obtain ⟨t262, A130, H⟩ := H
      replace H : (if (t261 == t262) = true then ((turncocklaw16_awake.f k).bind fun t263 => (some t263)) else (some false)) = some r := H
      have A13 := Aside0.mk A130
      clear A130
      by_cases c14 : (t261 == t262) = true
      · rw [if_pos c14] at H
        have c14b0 : (t261 == t262) = true := c14
        (try (have c14b1 : decide (t261 = t262) = true := by simpa using c14))
        (try (have c14b2 : (t261 == t262) = true := by simpa using c14))
        clear c14
        replace H := Option.bind_eq_some_iff.mp H
        obtain ⟨t263, A150, H⟩ := H
        replace H : (some t263) = some r := H
        have A15 := Aside0.mk A150
        clear A150
        first
          | exact absurd ((Option.some.inj H).trans hr_) (by decide)
          | (obtain rfl := Option.some.inj H
             clear hr_
             go_enter Try.func3, Try.ntmps3
             try go_wp2_with (first | ((with_reducible refine gate_dst (N := 4) rfl ?_); refine box_event ?hg (N := 4) ?hd (cs := #[.string a0_0, .int .i64 a0_1, .int .i64 a0_2, .float .f64 a0_3, .bool a0_4, .bool a0_5]) (t := 24) ?hr ?_; (case hd => rfl); (case hg => rfl); (case hr => first | (go_simp; done) | (go_simp; rfl)); intro gb242 hg w16 hbox hb; have n0_ := Aside0.mk (below_step (by repeat (first | (with_reducible first | exact HB.out | apply below_alloc | apply pw_below_drewN | apply below_drew1) | exact HB.out)) hb); have n1_ := Aside0.mk (hbox); have n2_ := Aside0.mk ((by rw [hg]; exact (below_size (by repeat (first | (with_reducible first | exact HB.out | apply below_alloc | apply pw_below_drewN | apply below_drew1) | exact HB.out))) : w.heap.size ≤ gb242)); have n3_ := Aside0.mk ((by rw [hg]; exact (below_size (by repeat (first | (with_reducible first | exact HB.out | apply below_alloc | apply pw_below_drewN | apply below_drew1) | exact HB.out))) : w.heap.size ≤ gb242)); clear HB; have HB := n0_; have BK242 := n1_; have GW242 := n2_; have GE242 := n3_; clear n0_ n1_ n2_ n3_; clear hb hbox hg) | ((with_reducible refine gate_dst (N := 5) rfl ?_); refine box_event ?hg (N := 5) ?hd (cs := #[.string a1_0, .int .i64 a1_1, .int .i64 a1_2, .float .f64 a1_3, .bool a1_4, .bool a1_5]) (t := 24) ?hr ?_; (case hd => rfl); (case hg => rfl); (case hr => first | (go_simp; done) | (go_simp; rfl)); intro gb243 hg w17 hbox hb; have n0_ := Aside0.mk (blk_below (g := gb242) (o := .cells #[.string a0_0, .int .i64 a0_1, .int .i64 a0_2, .float .f64 a0_3, .bool a0_4, .bool a0_5] 24 (0, 0)) (by (with_reducible repeat (first | refine blk_drewN ?_ _ | refine blk_drew ?_ | refine blk_alloc ?_ _)); exact BK242.out) hb); have n1_ := Aside0.mk (below_step (by repeat (first | (with_reducible first | exact HB.out | apply below_alloc | apply pw_below_drewN | apply below_drew1 | refine below_set ?_ GE242.out) | exact HB.out)) hb); have n2_ := Aside0.mk (hbox); have n3_ := Aside0.mk ((by rw [hg]; exact (below_size (by repeat (first | (with_reducible first | exact HB.out | apply below_alloc | apply pw_below_drewN | apply below_drew1 | refine below_set ?_ GE242.out) | exact HB.out))) : w.heap.size ≤ gb243)); have n4_ := Aside0.mk ((by rw [hg]; exact (below_size (by repeat (first | (with_reducible first | exact HB.out | apply below_alloc | apply pw_below_drewN | apply below_drew1 | refine below_set ?_ GE242.out) | exact HB.out))) : w.heap.size ≤ gb243)); have n5_ := Aside0.mk ((by rw [hg]; exact Nat.ne_of_lt (blk_lt (g := gb242) (o := .cells #[.string a0_0, .int .i64 a0_1, .int .i64 a0_2, .float .f64 a0_3, .bool a0_4, .bool a0_5] 24 (0, 0)) (by (with_reducible repeat (first | refine blk_drewN ?_ _ | refine blk_drew ?_ | refine blk_alloc ?_ _)); exact BK242.out)) : gb242 ≠ gb243)); have n6_ := Aside0.mk ((by rw [hg]; exact Nat.ne_of_gt (blk_lt (g := gb242) (o := .cells #[.string a0_0, .int .i64 a0_1, .int .i64 a0_2, .float .f64 a0_3, .bool a0_4, .bool a0_5] 24 (0, 0)) (by (with_reducible repeat (first | refine blk_drewN ?_ _ | refine blk_drew ?_ | refine blk_alloc ?_ _)); exact BK242.out)) : gb243 ≠ gb242)); clear BK242; clear HB; have BK242 := n0_; have HB := n1_; have BK243 := n2_; have GW243 := n3_; have GE243 := n4_; have NB242_243 := n5_; have NB243_242 := n6_; clear n0_ n1_ n2_ n3_ n4_ n5_ n6_; clear hb hbox hg))
             have n0_ := Aside0.mk (blk_drew BK242.out)
             have n1_ := Aside0.mk (blk_drew BK243.out)
             have n2_ := Aside0.mk (below_drew1 HB.out)
             clear BK242
             clear BK243
             clear HB
             have BK242 := n0_
             have BK243 := n1_
             have HB := n2_
             clear n0_ n1_ n2_
             refine start_ (n := 10) (S := fun w' => w'.cell? ⟨gb242, 0, none⟩ = some (.string a0_0) ∧ w'.cell? ⟨gb242, 1, none⟩ = some (.int .i64 a0_1) ∧ w'.cell? ⟨gb242, 2, none⟩ = some (.int .i64 a0_2) ∧ w'.cell? ⟨gb242, 3, none⟩ = some (.float .f64 a0_3) ∧ w'.cell? ⟨gb242, 4, none⟩ = some (.bool a0_4) ∧ w'.cell? ⟨gb242, 5, none⟩ = some (.bool a0_5) ∧ w'.cell? ⟨gb243, 0, none⟩ = some (.string a1_0) ∧ w'.cell? ⟨gb243, 1, none⟩ = some (.int .i64 a1_1) ∧ w'.cell? ⟨gb243, 2, none⟩ = some (.int .i64 a1_2) ∧ w'.cell? ⟨gb243, 3, none⟩ = some (.float .f64 a1_3) ∧ w'.cell? ⟨gb243, 4, none⟩ = some (.bool a1_4) ∧ w'.cell? ⟨gb243, 5, none⟩ = some (.bool a1_5)) (ds := []) #[false, false, false, false, false, false, false, false, false, false] (by kernel_rfl) rfl rfl ⟨(blk_cell BK242.out 0).trans rfl, (blk_cell BK242.out 1).trans rfl, (blk_cell BK242.out 2).trans rfl, (blk_cell BK242.out 3).trans rfl, (blk_cell BK242.out 4).trans rfl, (blk_cell BK242.out 5).trans rfl, (blk_cell BK243.out 0).trans rfl, (blk_cell BK243.out 1).trans rfl, (blk_cell BK243.out 2).trans rfl, (blk_cell BK243.out 3).trans rfl, (blk_cell BK243.out 4).trans rfl, (blk_cell BK243.out 5).trans rfl⟩ (fun hHeld => ?_); refine with_tabW turncocklaw16_RuleSame.tab1 turncocklaw16_RuleSame.bits1 (fun HT_ HW_ => ?_)
             generalize w17.drew = w18 at BK242 BK243 HB hHeld ⊢
             refine pure_ (i := 1) (N := some 12) (v := ?_) (a' := ?_) #[false, true, false, false, false, false, false, false, false, false] rfl rfl (any_of HT_.out (by kernel_rfl)) (fun _ _ _ h => h) (Or.inl ⟨by rfl, ?_⟩) ?_ ?_
             rotate_left
             · intro w'
               go_simp
               (first | with_reducible rfl | (rw [if_neg (by first | omega | (simp only [ByteArray.size_append] at *; omega) | (have hl_ : ∀ l_ : List UInt8, (⟨l_.toArray⟩ : ByteArray).size = l_.length := (fun l_ => by show l_.toArray.size = _; simp); simp only [ByteArray.size_append, hl_, List.length_cons, List.length_nil] at *; omega))]))
             rotate_left
             · simp only [Act.put, List.setIfInBounds_toArray, List.set_cons_zero, List.set_cons_succ, i64_w, i32_w]
               rfl
             refine pure_ (i := 4) (N := some 15) (v := ?_) (a' := ?_) #[false, true, false, false, true, false, false, false, false, false] rfl rfl (any_of HT_.out (by kernel_rfl)) (fun _ _ _ h => h) (Or.inl ⟨by rfl, ?_⟩) ?_ ?_
             rotate_left
             · intro w'
               go_simp
               (first | with_reducible rfl | (rw [if_neg (by first | omega | (simp only [ByteArray.size_append] at *; omega) | (have hl_ : ∀ l_ : List UInt8, (⟨l_.toArray⟩ : ByteArray).size = l_.length := (fun l_ => by show l_.toArray.size = _; simp); simp only [ByteArray.size_append, hl_, List.length_cons, List.length_nil] at *; omega))]))
             rotate_left
             · simp only [Act.put, List.setIfInBounds_toArray, List.set_cons_zero, List.set_cons_succ, i64_w, i32_w]
               rfl
             refine take_ (i := 0) (N := some 11) (v := ?_) (a' := ?_) #[true, true, false, false, true, false, false, false, false, false] rfl rfl (take_ofW HT_.out HW_.out (by kernel_rfl)) (fun _ _ _ h => h) (Or.inl ⟨by rfl, ?_⟩) hHeld ?_ ?_
             rotate_left
             · rintro w' ⟨s0, s1, s2, s3, s4, s5, s6, s7, s8, s9, s10, s11⟩
               go_simp
               (first | with_reducible rfl | (rw [if_neg (by first | omega | (simp only [ByteArray.size_append] at *; omega) | (have hl_ : ∀ l_ : List UInt8, (⟨l_.toArray⟩ : ByteArray).size = l_.length := (fun l_ => by show l_.toArray.size = _; simp); simp only [ByteArray.size_append, hl_, List.length_cons, List.length_nil] at *; omega))]))
             rotate_left
             · simp only [Act.put, List.setIfInBounds_toArray, List.set_cons_zero, List.set_cons_succ, i64_w, i32_w]
               rfl
             refine take_ (i := 3) (N := some 14) (v := ?_) (a' := ?_) #[true, true, false, true, true, false, false, false, false, false] rfl rfl (take_ofW HT_.out HW_.out (by kernel_rfl)) (fun _ _ _ h => h) (Or.inl ⟨by rfl, ?_⟩) hHeld ?_ ?_
             rotate_left
             · rintro w' ⟨s0, s1, s2, s3, s4, s5, s6, s7, s8, s9, s10, s11⟩
               go_simp
               (first | with_reducible rfl | (rw [if_neg (by first | omega | (simp only [ByteArray.size_append] at *; omega) | (have hl_ : ∀ l_ : List UInt8, (⟨l_.toArray⟩ : ByteArray).size = l_.length := (fun l_ => by show l_.toArray.size = _; simp); simp only [ByteArray.size_append, hl_, List.length_cons, List.length_nil] at *; omega))]))
             rotate_left
             · simp only [Act.put, List.setIfInBounds_toArray, List.set_cons_zero, List.set_cons_succ, i64_w, i32_w]
               rfl
             refine join_ (σ := Nat × Nat) 2 #[true, true, true, true, true, true, true, true, false, false] (fun s_ => [(13, .agg #[.string t244, .int .i64 t245, .int .i64 t246, .float .f64 t247, .bool t248, .bool t249]), (16, .agg #[.string t250, .int .i64 t251, .int .i64 t252, .float .f64 t253, .bool t254, .bool t255]), (9, .pointer (some ⟨s_.1, 0, none⟩)), (10, .pointer (some ⟨s_.2, 0, none⟩))]) (fun s_ w' => (w'.cell? ⟨gb242, 0, none⟩ = some (.string a0_0) ∧ w'.cell? ⟨gb242, 1, none⟩ = some (.int .i64 a0_1) ∧ w'.cell? ⟨gb242, 2, none⟩ = some (.int .i64 a0_2) ∧ w'.cell? ⟨gb242, 3, none⟩ = some (.float .f64 a0_3) ∧ w'.cell? ⟨gb242, 4, none⟩ = some (.bool a0_4) ∧ w'.cell? ⟨gb242, 5, none⟩ = some (.bool a0_5) ∧ w'.cell? ⟨gb243, 0, none⟩ = some (.string a1_0) ∧ w'.cell? ⟨gb243, 1, none⟩ = some (.int .i64 a1_1) ∧ w'.cell? ⟨gb243, 2, none⟩ = some (.int .i64 a1_2) ∧ w'.cell? ⟨gb243, 3, none⟩ = some (.float .f64 a1_3) ∧ w'.cell? ⟨gb243, 4, none⟩ = some (.bool a1_4) ∧ w'.cell? ⟨gb243, 5, none⟩ = some (.bool a1_5)) ∧ (w'.heap[gb242]? = some (.cells #[.string a0_0, .int .i64 a0_1, .int .i64 a0_2, .float .f64 a0_3, .bool a0_4, .bool a0_5] 24 (0, 0))) ∧ (w'.heap[gb243]? = some (.cells #[.string a1_0, .int .i64 a1_1, .int .i64 a1_2, .float .f64 a1_3, .bool a1_4, .bool a1_5] 24 (0, 0))) ∧ (w'.heap[s_.1]? = some (.cells #[.string (⟨#[]⟩ : ByteArray), .int .i64 0, .int .i64 0, .float .f64 0, .bool false, .bool false] 24 (0, 0))) ∧ (w'.heap[s_.2]? = some (.cells #[.string (⟨#[]⟩ : ByteArray), .int .i64 0, .int .i64 0, .float .f64 0, .bool false, .bool false] 24 (0, 0))) ∧ (w.heap.size ≤ s_.1) ∧ (w.heap.size ≤ s_.1) ∧ (gb242 ≠ s_.1) ∧ (s_.1 ≠ gb242) ∧ (gb243 ≠ s_.1) ∧ (s_.1 ≠ gb243) ∧ (s_.2 ≠ s_.1) ∧ (s_.1 ≠ s_.2) ∧ (w.heap.size ≤ s_.2) ∧ (w.heap.size ≤ s_.2) ∧ (gb242 ≠ s_.2) ∧ (s_.2 ≠ gb242) ∧ (gb243 ≠ s_.2) ∧ (s_.2 ≠ gb243) ∧ (Below w.heap.size w w')) ?_ ?_
             rotate_left
             · intro hJ2_5_6_7
               refine join_ (σ := Nat) 3 #[true, true, true, true, true, true, true, false, false, false] (fun s_ => [(13, .agg #[.string t244, .int .i64 t245, .int .i64 t246, .float .f64 t247, .bool t248, .bool t249]), (16, .agg #[.string t250, .int .i64 t251, .int .i64 t252, .float .f64 t253, .bool t254, .bool t255]), (9, .pointer (some ⟨s_, 0, none⟩))]) (fun s_ w' => (w'.cell? ⟨gb242, 0, none⟩ = some (.string a0_0) ∧ w'.cell? ⟨gb242, 1, none⟩ = some (.int .i64 a0_1) ∧ w'.cell? ⟨gb242, 2, none⟩ = some (.int .i64 a0_2) ∧ w'.cell? ⟨gb242, 3, none⟩ = some (.float .f64 a0_3) ∧ w'.cell? ⟨gb242, 4, none⟩ = some (.bool a0_4) ∧ w'.cell? ⟨gb242, 5, none⟩ = some (.bool a0_5) ∧ w'.cell? ⟨gb243, 0, none⟩ = some (.string a1_0) ∧ w'.cell? ⟨gb243, 1, none⟩ = some (.int .i64 a1_1) ∧ w'.cell? ⟨gb243, 2, none⟩ = some (.int .i64 a1_2) ∧ w'.cell? ⟨gb243, 3, none⟩ = some (.float .f64 a1_3) ∧ w'.cell? ⟨gb243, 4, none⟩ = some (.bool a1_4) ∧ w'.cell? ⟨gb243, 5, none⟩ = some (.bool a1_5)) ∧ (w'.heap[gb242]? = some (.cells #[.string a0_0, .int .i64 a0_1, .int .i64 a0_2, .float .f64 a0_3, .bool a0_4, .bool a0_5] 24 (0, 0))) ∧ (w'.heap[gb243]? = some (.cells #[.string a1_0, .int .i64 a1_1, .int .i64 a1_2, .float .f64 a1_3, .bool a1_4, .bool a1_5] 24 (0, 0))) ∧ (w'.heap[s_]? = some (.cells #[.string (⟨#[]⟩ : ByteArray), .int .i64 0, .int .i64 0, .float .f64 0, .bool false, .bool false] 24 (0, 0))) ∧ (w.heap.size ≤ s_) ∧ (w.heap.size ≤ s_) ∧ (gb242 ≠ s_) ∧ (s_ ≠ gb242) ∧ (gb243 ≠ s_) ∧ (s_ ≠ gb243) ∧ (Below w.heap.size w w')) ?_ ?_
               rotate_left
               · intro hJ2_5_6
                 refine join_ (σ := Nat) 3 #[true, true, true, true, true, true, false, true, false, false] (fun s_ => [(13, .agg #[.string t244, .int .i64 t245, .int .i64 t246, .float .f64 t247, .bool t248, .bool t249]), (16, .agg #[.string t250, .int .i64 t251, .int .i64 t252, .float .f64 t253, .bool t254, .bool t255]), (10, .pointer (some ⟨s_, 0, none⟩))]) (fun s_ w' => (w'.cell? ⟨gb242, 0, none⟩ = some (.string a0_0) ∧ w'.cell? ⟨gb242, 1, none⟩ = some (.int .i64 a0_1) ∧ w'.cell? ⟨gb242, 2, none⟩ = some (.int .i64 a0_2) ∧ w'.cell? ⟨gb242, 3, none⟩ = some (.float .f64 a0_3) ∧ w'.cell? ⟨gb242, 4, none⟩ = some (.bool a0_4) ∧ w'.cell? ⟨gb242, 5, none⟩ = some (.bool a0_5) ∧ w'.cell? ⟨gb243, 0, none⟩ = some (.string a1_0) ∧ w'.cell? ⟨gb243, 1, none⟩ = some (.int .i64 a1_1) ∧ w'.cell? ⟨gb243, 2, none⟩ = some (.int .i64 a1_2) ∧ w'.cell? ⟨gb243, 3, none⟩ = some (.float .f64 a1_3) ∧ w'.cell? ⟨gb243, 4, none⟩ = some (.bool a1_4) ∧ w'.cell? ⟨gb243, 5, none⟩ = some (.bool a1_5)) ∧ (w'.heap[gb242]? = some (.cells #[.string a0_0, .int .i64 a0_1, .int .i64 a0_2, .float .f64 a0_3, .bool a0_4, .bool a0_5] 24 (0, 0))) ∧ (w'.heap[gb243]? = some (.cells #[.string a1_0, .int .i64 a1_1, .int .i64 a1_2, .float .f64 a1_3, .bool a1_4, .bool a1_5] 24 (0, 0))) ∧ (w'.heap[s_]? = some (.cells #[.string (⟨#[]⟩ : ByteArray), .int .i64 0, .int .i64 0, .float .f64 0, .bool false, .bool false] 24 (0, 0))) ∧ (w.heap.size ≤ s_) ∧ (w.heap.size ≤ s_) ∧ (gb242 ≠ s_) ∧ (s_ ≠ gb242) ∧ (gb243 ≠ s_) ∧ (s_ ≠ gb243) ∧ (Below w.heap.size w w')) ?_ ?_
                 rotate_left
                 · intro hJ2_5_7
                   refine join_ (σ := Nat × Nat) 3 #[true, true, true, true, true, false, true, true, false, false] (fun s_ => [(13, .agg #[.string t244, .int .i64 t245, .int .i64 t246, .float .f64 t247, .bool t248, .bool t249]), (9, .pointer (some ⟨s_.1, 0, none⟩)), (10, .pointer (some ⟨s_.2, 0, none⟩))]) (fun s_ w' => (w'.cell? ⟨gb242, 0, none⟩ = some (.string a0_0) ∧ w'.cell? ⟨gb242, 1, none⟩ = some (.int .i64 a0_1) ∧ w'.cell? ⟨gb242, 2, none⟩ = some (.int .i64 a0_2) ∧ w'.cell? ⟨gb242, 3, none⟩ = some (.float .f64 a0_3) ∧ w'.cell? ⟨gb242, 4, none⟩ = some (.bool a0_4) ∧ w'.cell? ⟨gb242, 5, none⟩ = some (.bool a0_5) ∧ w'.cell? ⟨gb243, 0, none⟩ = some (.string a1_0) ∧ w'.cell? ⟨gb243, 1, none⟩ = some (.int .i64 a1_1) ∧ w'.cell? ⟨gb243, 2, none⟩ = some (.int .i64 a1_2) ∧ w'.cell? ⟨gb243, 3, none⟩ = some (.float .f64 a1_3) ∧ w'.cell? ⟨gb243, 4, none⟩ = some (.bool a1_4) ∧ w'.cell? ⟨gb243, 5, none⟩ = some (.bool a1_5)) ∧ (w'.heap[gb242]? = some (.cells #[.string a0_0, .int .i64 a0_1, .int .i64 a0_2, .float .f64 a0_3, .bool a0_4, .bool a0_5] 24 (0, 0))) ∧ (w'.heap[gb243]? = some (.cells #[.string a1_0, .int .i64 a1_1, .int .i64 a1_2, .float .f64 a1_3, .bool a1_4, .bool a1_5] 24 (0, 0))) ∧ (w'.heap[s_.1]? = some (.cells #[.string (⟨#[]⟩ : ByteArray), .int .i64 0, .int .i64 0, .float .f64 0, .bool false, .bool false] 24 (0, 0))) ∧ (w'.heap[s_.2]? = some (.cells #[.string (⟨#[]⟩ : ByteArray), .int .i64 0, .int .i64 0, .float .f64 0, .bool false, .bool false] 24 (0, 0))) ∧ (w.heap.size ≤ s_.1) ∧ (w.heap.size ≤ s_.1) ∧ (gb242 ≠ s_.1) ∧ (s_.1 ≠ gb242) ∧ (gb243 ≠ s_.1) ∧ (s_.1 ≠ gb243) ∧ (s_.2 ≠ s_.1) ∧ (s_.1 ≠ s_.2) ∧ (w.heap.size ≤ s_.2) ∧ (w.heap.size ≤ s_.2) ∧ (gb242 ≠ s_.2) ∧ (s_.2 ≠ gb242) ∧ (gb243 ≠ s_.2) ∧ (s_.2 ≠ gb243) ∧ (Below w.heap.size w w')) ?_ ?_
                   rotate_left
                   · intro hJ2_6_7
                     refine join_ (σ := Unit) 4 #[true, true, true, true, true, true, false, false, false, false] (fun s_ => [(13, .agg #[.string t244, .int .i64 t245, .int .i64 t246, .float .f64 t247, .bool t248, .bool t249]), (16, .agg #[.string t250, .int .i64 t251, .int .i64 t252, .float .f64 t253, .bool t254, .bool t255])]) (fun s_ w' => (w'.cell? ⟨gb242, 0, none⟩ = some (.string a0_0) ∧ w'.cell? ⟨gb242, 1, none⟩ = some (.int .i64 a0_1) ∧ w'.cell? ⟨gb242, 2, none⟩ = some (.int .i64 a0_2) ∧ w'.cell? ⟨gb242, 3, none⟩ = some (.float .f64 a0_3) ∧ w'.cell? ⟨gb242, 4, none⟩ = some (.bool a0_4) ∧ w'.cell? ⟨gb242, 5, none⟩ = some (.bool a0_5) ∧ w'.cell? ⟨gb243, 0, none⟩ = some (.string a1_0) ∧ w'.cell? ⟨gb243, 1, none⟩ = some (.int .i64 a1_1) ∧ w'.cell? ⟨gb243, 2, none⟩ = some (.int .i64 a1_2) ∧ w'.cell? ⟨gb243, 3, none⟩ = some (.float .f64 a1_3) ∧ w'.cell? ⟨gb243, 4, none⟩ = some (.bool a1_4) ∧ w'.cell? ⟨gb243, 5, none⟩ = some (.bool a1_5)) ∧ (w'.heap[gb242]? = some (.cells #[.string a0_0, .int .i64 a0_1, .int .i64 a0_2, .float .f64 a0_3, .bool a0_4, .bool a0_5] 24 (0, 0))) ∧ (w'.heap[gb243]? = some (.cells #[.string a1_0, .int .i64 a1_1, .int .i64 a1_2, .float .f64 a1_3, .bool a1_4, .bool a1_5] 24 (0, 0))) ∧ (Below w.heap.size w w')) ?_ ?_
                     rotate_left
                     · intro hJ2_5
                       refine join_ (σ := Nat) 4 #[true, true, true, true, true, false, true, false, false, false] (fun s_ => [(13, .agg #[.string t244, .int .i64 t245, .int .i64 t246, .float .f64 t247, .bool t248, .bool t249]), (9, .pointer (some ⟨s_, 0, none⟩))]) (fun s_ w' => (w'.cell? ⟨gb242, 0, none⟩ = some (.string a0_0) ∧ w'.cell? ⟨gb242, 1, none⟩ = some (.int .i64 a0_1) ∧ w'.cell? ⟨gb242, 2, none⟩ = some (.int .i64 a0_2) ∧ w'.cell? ⟨gb242, 3, none⟩ = some (.float .f64 a0_3) ∧ w'.cell? ⟨gb242, 4, none⟩ = some (.bool a0_4) ∧ w'.cell? ⟨gb242, 5, none⟩ = some (.bool a0_5) ∧ w'.cell? ⟨gb243, 0, none⟩ = some (.string a1_0) ∧ w'.cell? ⟨gb243, 1, none⟩ = some (.int .i64 a1_1) ∧ w'.cell? ⟨gb243, 2, none⟩ = some (.int .i64 a1_2) ∧ w'.cell? ⟨gb243, 3, none⟩ = some (.float .f64 a1_3) ∧ w'.cell? ⟨gb243, 4, none⟩ = some (.bool a1_4) ∧ w'.cell? ⟨gb243, 5, none⟩ = some (.bool a1_5)) ∧ (w'.heap[gb242]? = some (.cells #[.string a0_0, .int .i64 a0_1, .int .i64 a0_2, .float .f64 a0_3, .bool a0_4, .bool a0_5] 24 (0, 0))) ∧ (w'.heap[gb243]? = some (.cells #[.string a1_0, .int .i64 a1_1, .int .i64 a1_2, .float .f64 a1_3, .bool a1_4, .bool a1_5] 24 (0, 0))) ∧ (w'.heap[s_]? = some (.cells #[.string (⟨#[]⟩ : ByteArray), .int .i64 0, .int .i64 0, .float .f64 0, .bool false, .bool false] 24 (0, 0))) ∧ (w.heap.size ≤ s_) ∧ (w.heap.size ≤ s_) ∧ (gb242 ≠ s_) ∧ (s_ ≠ gb242) ∧ (gb243 ≠ s_) ∧ (s_ ≠ gb243) ∧ (Below w.heap.size w w')) ?_ ?_
                       rotate_left
                       · intro hJ2_6
                         refine join_ (σ := Nat) 4 #[true, true, true, true, true, false, false, true, false, false] (fun s_ => [(13, .agg #[.string t244, .int .i64 t245, .int .i64 t246, .float .f64 t247, .bool t248, .bool t249]), (10, .pointer (some ⟨s_, 0, none⟩))]) (fun s_ w' => (w'.cell? ⟨gb242, 0, none⟩ = some (.string a0_0) ∧ w'.cell? ⟨gb242, 1, none⟩ = some (.int .i64 a0_1) ∧ w'.cell? ⟨gb242, 2, none⟩ = some (.int .i64 a0_2) ∧ w'.cell? ⟨gb242, 3, none⟩ = some (.float .f64 a0_3) ∧ w'.cell? ⟨gb242, 4, none⟩ = some (.bool a0_4) ∧ w'.cell? ⟨gb242, 5, none⟩ = some (.bool a0_5) ∧ w'.cell? ⟨gb243, 0, none⟩ = some (.string a1_0) ∧ w'.cell? ⟨gb243, 1, none⟩ = some (.int .i64 a1_1) ∧ w'.cell? ⟨gb243, 2, none⟩ = some (.int .i64 a1_2) ∧ w'.cell? ⟨gb243, 3, none⟩ = some (.float .f64 a1_3) ∧ w'.cell? ⟨gb243, 4, none⟩ = some (.bool a1_4) ∧ w'.cell? ⟨gb243, 5, none⟩ = some (.bool a1_5)) ∧ (w'.heap[gb242]? = some (.cells #[.string a0_0, .int .i64 a0_1, .int .i64 a0_2, .float .f64 a0_3, .bool a0_4, .bool a0_5] 24 (0, 0))) ∧ (w'.heap[gb243]? = some (.cells #[.string a1_0, .int .i64 a1_1, .int .i64 a1_2, .float .f64 a1_3, .bool a1_4, .bool a1_5] 24 (0, 0))) ∧ (w'.heap[s_]? = some (.cells #[.string (⟨#[]⟩ : ByteArray), .int .i64 0, .int .i64 0, .float .f64 0, .bool false, .bool false] 24 (0, 0))) ∧ (w.heap.size ≤ s_) ∧ (w.heap.size ≤ s_) ∧ (gb242 ≠ s_) ∧ (s_ ≠ gb242) ∧ (gb243 ≠ s_) ∧ (s_ ≠ gb243) ∧ (Below w.heap.size w w')) ?_ ?_
                         rotate_left
                         · intro hJ2_7
                           refine join_ (σ := Nat × Nat) 4 #[true, true, false, true, true, false, true, true, false, false] (fun s_ => [(9, .pointer (some ⟨s_.1, 0, none⟩)), (10, .pointer (some ⟨s_.2, 0, none⟩))]) (fun s_ w' => (w'.cell? ⟨gb242, 0, none⟩ = some (.string a0_0) ∧ w'.cell? ⟨gb242, 1, none⟩ = some (.int .i64 a0_1) ∧ w'.cell? ⟨gb242, 2, none⟩ = some (.int .i64 a0_2) ∧ w'.cell? ⟨gb242, 3, none⟩ = some (.float .f64 a0_3) ∧ w'.cell? ⟨gb242, 4, none⟩ = some (.bool a0_4) ∧ w'.cell? ⟨gb242, 5, none⟩ = some (.bool a0_5) ∧ w'.cell? ⟨gb243, 0, none⟩ = some (.string a1_0) ∧ w'.cell? ⟨gb243, 1, none⟩ = some (.int .i64 a1_1) ∧ w'.cell? ⟨gb243, 2, none⟩ = some (.int .i64 a1_2) ∧ w'.cell? ⟨gb243, 3, none⟩ = some (.float .f64 a1_3) ∧ w'.cell? ⟨gb243, 4, none⟩ = some (.bool a1_4) ∧ w'.cell? ⟨gb243, 5, none⟩ = some (.bool a1_5)) ∧ (w'.heap[gb242]? = some (.cells #[.string a0_0, .int .i64 a0_1, .int .i64 a0_2, .float .f64 a0_3, .bool a0_4, .bool a0_5] 24 (0, 0))) ∧ (w'.heap[gb243]? = some (.cells #[.string a1_0, .int .i64 a1_1, .int .i64 a1_2, .float .f64 a1_3, .bool a1_4, .bool a1_5] 24 (0, 0))) ∧ (w'.heap[s_.1]? = some (.cells #[.string (⟨#[]⟩ : ByteArray), .int .i64 0, .int .i64 0, .float .f64 0, .bool false, .bool false] 24 (0, 0))) ∧ (w'.heap[s_.2]? = some (.cells #[.string (⟨#[]⟩ : ByteArray), .int .i64 0, .int .i64 0, .float .f64 0, .bool false, .bool false] 24 (0, 0))) ∧ (w.heap.size ≤ s_.1) ∧ (w.heap.size ≤ s_.1) ∧ (gb242 ≠ s_.1) ∧ (s_.1 ≠ gb242) ∧ (gb243 ≠ s_.1) ∧ (s_.1 ≠ gb243) ∧ (s_.2 ≠ s_.1) ∧ (s_.1 ≠ s_.2) ∧ (w.heap.size ≤ s_.2) ∧ (w.heap.size ≤ s_.2) ∧ (gb242 ≠ s_.2) ∧ (s_.2 ≠ gb242) ∧ (gb243 ≠ s_.2) ∧ (s_.2 ≠ gb243) ∧ (Below w.heap.size w w')) ?_ ?_
                           rotate_left
                           · intro hJ6_7
                             refine join_ (σ := Unit) 5 #[true, true, true, true, true, false, false, false, false, false] (fun s_ => [(13, .agg #[.string t244, .int .i64 t245, .int .i64 t246, .float .f64 t247, .bool t248, .bool t249])]) (fun s_ w' => (w'.cell? ⟨gb242, 0, none⟩ = some (.string a0_0) ∧ w'.cell? ⟨gb242, 1, none⟩ = some (.int .i64 a0_1) ∧ w'.cell? ⟨gb242, 2, none⟩ = some (.int .i64 a0_2) ∧ w'.cell? ⟨gb242, 3, none⟩ = some (.float .f64 a0_3) ∧ w'.cell? ⟨gb242, 4, none⟩ = some (.bool a0_4) ∧ w'.cell? ⟨gb242, 5, none⟩ = some (.bool a0_5) ∧ w'.cell? ⟨gb243, 0, none⟩ = some (.string a1_0) ∧ w'.cell? ⟨gb243, 1, none⟩ = some (.int .i64 a1_1) ∧ w'.cell? ⟨gb243, 2, none⟩ = some (.int .i64 a1_2) ∧ w'.cell? ⟨gb243, 3, none⟩ = some (.float .f64 a1_3) ∧ w'.cell? ⟨gb243, 4, none⟩ = some (.bool a1_4) ∧ w'.cell? ⟨gb243, 5, none⟩ = some (.bool a1_5)) ∧ (w'.heap[gb242]? = some (.cells #[.string a0_0, .int .i64 a0_1, .int .i64 a0_2, .float .f64 a0_3, .bool a0_4, .bool a0_5] 24 (0, 0))) ∧ (w'.heap[gb243]? = some (.cells #[.string a1_0, .int .i64 a1_1, .int .i64 a1_2, .float .f64 a1_3, .bool a1_4, .bool a1_5] 24 (0, 0))) ∧ (Below w.heap.size w w')) ?_ ?_
                             rotate_left
                             · intro hJ2
                               refine join_ (σ := Nat) 5 #[true, true, false, true, true, false, true, false, false, false] (fun s_ => [(9, .pointer (some ⟨s_, 0, none⟩))]) (fun s_ w' => (w'.cell? ⟨gb242, 0, none⟩ = some (.string a0_0) ∧ w'.cell? ⟨gb242, 1, none⟩ = some (.int .i64 a0_1) ∧ w'.cell? ⟨gb242, 2, none⟩ = some (.int .i64 a0_2) ∧ w'.cell? ⟨gb242, 3, none⟩ = some (.float .f64 a0_3) ∧ w'.cell? ⟨gb242, 4, none⟩ = some (.bool a0_4) ∧ w'.cell? ⟨gb242, 5, none⟩ = some (.bool a0_5) ∧ w'.cell? ⟨gb243, 0, none⟩ = some (.string a1_0) ∧ w'.cell? ⟨gb243, 1, none⟩ = some (.int .i64 a1_1) ∧ w'.cell? ⟨gb243, 2, none⟩ = some (.int .i64 a1_2) ∧ w'.cell? ⟨gb243, 3, none⟩ = some (.float .f64 a1_3) ∧ w'.cell? ⟨gb243, 4, none⟩ = some (.bool a1_4) ∧ w'.cell? ⟨gb243, 5, none⟩ = some (.bool a1_5)) ∧ (w'.heap[gb242]? = some (.cells #[.string a0_0, .int .i64 a0_1, .int .i64 a0_2, .float .f64 a0_3, .bool a0_4, .bool a0_5] 24 (0, 0))) ∧ (w'.heap[gb243]? = some (.cells #[.string a1_0, .int .i64 a1_1, .int .i64 a1_2, .float .f64 a1_3, .bool a1_4, .bool a1_5] 24 (0, 0))) ∧ (w'.heap[s_]? = some (.cells #[.string (⟨#[]⟩ : ByteArray), .int .i64 0, .int .i64 0, .float .f64 0, .bool false, .bool false] 24 (0, 0))) ∧ (w.heap.size ≤ s_) ∧ (w.heap.size ≤ s_) ∧ (gb242 ≠ s_) ∧ (s_ ≠ gb242) ∧ (gb243 ≠ s_) ∧ (s_ ≠ gb243) ∧ (Below w.heap.size w w')) ?_ ?_
                               rotate_left
                               · intro hJ6
                                 refine join_ (σ := Nat) 5 #[true, true, false, true, true, false, false, true, false, false] (fun s_ => [(10, .pointer (some ⟨s_, 0, none⟩))]) (fun s_ w' => (w'.cell? ⟨gb242, 0, none⟩ = some (.string a0_0) ∧ w'.cell? ⟨gb242, 1, none⟩ = some (.int .i64 a0_1) ∧ w'.cell? ⟨gb242, 2, none⟩ = some (.int .i64 a0_2) ∧ w'.cell? ⟨gb242, 3, none⟩ = some (.float .f64 a0_3) ∧ w'.cell? ⟨gb242, 4, none⟩ = some (.bool a0_4) ∧ w'.cell? ⟨gb242, 5, none⟩ = some (.bool a0_5) ∧ w'.cell? ⟨gb243, 0, none⟩ = some (.string a1_0) ∧ w'.cell? ⟨gb243, 1, none⟩ = some (.int .i64 a1_1) ∧ w'.cell? ⟨gb243, 2, none⟩ = some (.int .i64 a1_2) ∧ w'.cell? ⟨gb243, 3, none⟩ = some (.float .f64 a1_3) ∧ w'.cell? ⟨gb243, 4, none⟩ = some (.bool a1_4) ∧ w'.cell? ⟨gb243, 5, none⟩ = some (.bool a1_5)) ∧ (w'.heap[gb242]? = some (.cells #[.string a0_0, .int .i64 a0_1, .int .i64 a0_2, .float .f64 a0_3, .bool a0_4, .bool a0_5] 24 (0, 0))) ∧ (w'.heap[gb243]? = some (.cells #[.string a1_0, .int .i64 a1_1, .int .i64 a1_2, .float .f64 a1_3, .bool a1_4, .bool a1_5] 24 (0, 0))) ∧ (w'.heap[s_]? = some (.cells #[.string (⟨#[]⟩ : ByteArray), .int .i64 0, .int .i64 0, .float .f64 0, .bool false, .bool false] 24 (0, 0))) ∧ (w.heap.size ≤ s_) ∧ (w.heap.size ≤ s_) ∧ (gb242 ≠ s_) ∧ (s_ ≠ gb242) ∧ (gb243 ≠ s_) ∧ (s_ ≠ gb243) ∧ (Below w.heap.size w w')) ?_ ?_
                                 rotate_left
                                 · intro hJ7
                                   refine three_ (i := 2) (j := 6) (k := 7) (Ni := some 13) (Nj := some 9) (Nk := some 10) #[true, true, true, true, true, false, false, false, false, false] #[true, true, false, true, true, false, true, false, false, false] #[true, true, false, true, true, false, false, true, false, false] rfl rfl rfl rfl rfl rfl (three_of HT_.out (by kernel_rfl)) (by decide) (by decide) (by decide) (fun K hK => ?_) (fun K hK => ?_) (fun K hK => ?_)
                                   · skip
                                     refine goes_ Try.func10 (by kernel_rfl) rfl #[.agg #[.string a0_0, .int .i64 a0_1, .int .i64 a0_2, .float .f64 a0_3, .bool a0_4, .bool a0_5], .int .u64 a2] (by rfl) rfl rfl (by (try simp only [List.map_toArray, List.map_cons, List.map_nil]); first | done | rfl | (simp only [List.length_drop, List.length_take]; rfl)) ?_
                                     with_reducible refine (turncocklaw16_of.calls a0_0 a0_1 a0_2 a0_3 a0_4 a0_5 a2 t244 t245 t246 t247 t248 t249 _ A5.out).mono ?_
                                     rintro e w19 ⟨rfl, hb⟩
                                     refine ⟨_, rfl, ?_⟩
                                     have n0_ := Aside0.mk (blk_below (g := gb242) (o := .cells #[.string a0_0, .int .i64 a0_1, .int .i64 a0_2, .float .f64 a0_3, .bool a0_4, .bool a0_5] 24 (0, 0)) (by (with_reducible repeat (first | refine blk_drewN ?_ _ | refine blk_drew ?_ | refine blk_alloc ?_ _)); exact BK242.out) hb)
                                     have n1_ := Aside0.mk (blk_below (g := gb243) (o := .cells #[.string a1_0, .int .i64 a1_1, .int .i64 a1_2, .float .f64 a1_3, .bool a1_4, .bool a1_5] 24 (0, 0)) (by (with_reducible repeat (first | refine blk_drewN ?_ _ | refine blk_drew ?_ | refine blk_alloc ?_ _)); exact BK243.out) hb)
                                     have n2_ := Aside0.mk (below_step (by repeat (first | (with_reducible first | exact HB.out | apply below_alloc | apply pw_below_drewN | apply below_drew1 | refine below_set ?_ GE242.out | refine below_set ?_ GE243.out) | exact HB.out)) hb)
                                     clear BK242
                                     clear BK243
                                     clear HB
                                     have BK242 := n0_
                                     have BK243 := n1_
                                     have HB := n2_
                                     clear n0_ n1_ n2_
                                     (try clear hb)
                                     (try clear hb2)
                                     (try clear hk)
                                     (try clear hi)
                                     refine hK.out _ _ ⟨(blk_cell BK242.out 0).trans rfl, (blk_cell BK242.out 1).trans rfl, (blk_cell BK242.out 2).trans rfl, (blk_cell BK242.out 3).trans rfl, (blk_cell BK242.out 4).trans rfl, (blk_cell BK242.out 5).trans rfl, (blk_cell BK243.out 0).trans rfl, (blk_cell BK243.out 1).trans rfl, (blk_cell BK243.out 2).trans rfl, (blk_cell BK243.out 3).trans rfl, (blk_cell BK243.out 4).trans rfl, (blk_cell BK243.out 5).trans rfl⟩ (fun hHeld => ?_)
                                     clear hK K
                                     refine norm_ (a' := ?_) ?_ ?_
                                     rotate_left
                                     · show Act.put _ (some 13) _ = _
                                       simp only [Act.put, List.setIfInBounds_toArray, List.set_cons_zero, List.set_cons_succ, i64_w, i32_w]
                                       rfl
                                     exact norm_ (by first | (simp only [putAll, Act.put, List.setIfInBounds_toArray, List.set_cons_zero, List.set_cons_succ]; done) | (simp only [putAll, Act.put, List.setIfInBounds_toArray, List.set_cons_zero, List.set_cons_succ]; rfl)) (hJ2 () _ ⟨hHeld, (by (with_reducible repeat (first | refine blk_drewN ?_ _ | refine blk_drew ?_ | refine blk_alloc ?_ _)); exact BK242.out), (by (with_reducible repeat (first | refine blk_drewN ?_ _ | refine blk_drew ?_ | refine blk_alloc ?_ _)); exact BK243.out), (by repeat (first | (with_reducible first | exact HB.out | apply below_alloc | apply pw_below_drewN | apply below_drew1 | refine below_set ?_ GE242.out | refine below_set ?_ GE243.out) | exact HB.out))⟩)
                                   · skip
                                     refine box_step ?hg (N := 9) ?hd (cs := #[.string (⟨#[]⟩ : ByteArray), .int .i64 0, .int .i64 0, .float .f64 0, .bool false, .bool false]) (t := 24) ?hr ?_; (case hd => rfl); (case hg => rfl); (case hr => first | (go_simp; done) | (go_simp; rfl))
                                     intro gb256 hg w19 hbox hb
                                     have n0_ := Aside0.mk (blk_below (g := gb242) (o := .cells #[.string a0_0, .int .i64 a0_1, .int .i64 a0_2, .float .f64 a0_3, .bool a0_4, .bool a0_5] 24 (0, 0)) (by (with_reducible repeat (first | refine blk_drewN ?_ _ | refine blk_drew ?_ | refine blk_alloc ?_ _)); exact BK242.out) hb)
                                     have n1_ := Aside0.mk (blk_below (g := gb243) (o := .cells #[.string a1_0, .int .i64 a1_1, .int .i64 a1_2, .float .f64 a1_3, .bool a1_4, .bool a1_5] 24 (0, 0)) (by (with_reducible repeat (first | refine blk_drewN ?_ _ | refine blk_drew ?_ | refine blk_alloc ?_ _)); exact BK243.out) hb)
                                     have n2_ := Aside0.mk (below_step (by repeat (first | (with_reducible first | exact HB.out | apply below_alloc | apply pw_below_drewN | apply below_drew1 | refine below_set ?_ GE242.out | refine below_set ?_ GE243.out) | exact HB.out)) hb)
                                     have n3_ := Aside0.mk (hbox)
                                     have n4_ := Aside0.mk ((by rw [hg]; exact (below_size (by repeat (first | (with_reducible first | exact HB.out | apply below_alloc | apply pw_below_drewN | apply below_drew1 | refine below_set ?_ GE242.out | refine below_set ?_ GE243.out) | exact HB.out))) : w.heap.size ≤ gb256))
                                     have n5_ := Aside0.mk ((by rw [hg]; exact (below_size (by repeat (first | (with_reducible first | exact HB.out | apply below_alloc | apply pw_below_drewN | apply below_drew1 | refine below_set ?_ GE242.out | refine below_set ?_ GE243.out) | exact HB.out))) : w.heap.size ≤ gb256))
                                     have n6_ := Aside0.mk ((by rw [hg]; exact Nat.ne_of_lt (blk_lt (g := gb242) (o := .cells #[.string a0_0, .int .i64 a0_1, .int .i64 a0_2, .float .f64 a0_3, .bool a0_4, .bool a0_5] 24 (0, 0)) (by (with_reducible repeat (first | refine blk_drewN ?_ _ | refine blk_drew ?_ | refine blk_alloc ?_ _)); exact BK242.out)) : gb242 ≠ gb256))
                                     have n7_ := Aside0.mk ((by rw [hg]; exact Nat.ne_of_gt (blk_lt (g := gb242) (o := .cells #[.string a0_0, .int .i64 a0_1, .int .i64 a0_2, .float .f64 a0_3, .bool a0_4, .bool a0_5] 24 (0, 0)) (by (with_reducible repeat (first | refine blk_drewN ?_ _ | refine blk_drew ?_ | refine blk_alloc ?_ _)); exact BK242.out)) : gb256 ≠ gb242))
                                     have n8_ := Aside0.mk ((by rw [hg]; exact Nat.ne_of_lt (blk_lt (g := gb243) (o := .cells #[.string a1_0, .int .i64 a1_1, .int .i64 a1_2, .float .f64 a1_3, .bool a1_4, .bool a1_5] 24 (0, 0)) (by (with_reducible repeat (first | refine blk_drewN ?_ _ | refine blk_drew ?_ | refine blk_alloc ?_ _)); exact BK243.out)) : gb243 ≠ gb256))
                                     have n9_ := Aside0.mk ((by rw [hg]; exact Nat.ne_of_gt (blk_lt (g := gb243) (o := .cells #[.string a1_0, .int .i64 a1_1, .int .i64 a1_2, .float .f64 a1_3, .bool a1_4, .bool a1_5] 24 (0, 0)) (by (with_reducible repeat (first | refine blk_drewN ?_ _ | refine blk_drew ?_ | refine blk_alloc ?_ _)); exact BK243.out)) : gb256 ≠ gb243))
                                     clear BK242
                                     clear BK243
                                     clear HB
                                     have BK242 := n0_
                                     have BK243 := n1_
                                     have HB := n2_
                                     have BK256 := n3_
                                     have GW256 := n4_
                                     have GE256 := n5_
                                     have NB242_256 := n6_
                                     have NB256_242 := n7_
                                     have NB243_256 := n8_
                                     have NB256_243 := n9_
                                     clear n0_ n1_ n2_ n3_ n4_ n5_ n6_ n7_ n8_ n9_
                                     clear hb hbox hg
                                     refine hK.out _ _ ⟨(blk_cell BK242.out 0).trans rfl, (blk_cell BK242.out 1).trans rfl, (blk_cell BK242.out 2).trans rfl, (blk_cell BK242.out 3).trans rfl, (blk_cell BK242.out 4).trans rfl, (blk_cell BK242.out 5).trans rfl, (blk_cell BK243.out 0).trans rfl, (blk_cell BK243.out 1).trans rfl, (blk_cell BK243.out 2).trans rfl, (blk_cell BK243.out 3).trans rfl, (blk_cell BK243.out 4).trans rfl, (blk_cell BK243.out 5).trans rfl⟩ (fun hHeld => ?_)
                                     clear hK K
                                     refine norm_ (a' := ?_) ?_ ?_
                                     rotate_left
                                     · show Act.put _ (some 9) _ = _
                                       simp only [Act.put, List.setIfInBounds_toArray, List.set_cons_zero, List.set_cons_succ, i64_w, i32_w]
                                       rfl
                                     exact norm_ (by first | (simp only [putAll, Act.put, List.setIfInBounds_toArray, List.set_cons_zero, List.set_cons_succ]; done) | (simp only [putAll, Act.put, List.setIfInBounds_toArray, List.set_cons_zero, List.set_cons_succ]; rfl)) (hJ6 (gb256) _ ⟨hHeld, (by (with_reducible repeat (first | refine blk_drewN ?_ _ | refine blk_drew ?_ | refine blk_alloc ?_ _)); exact BK242.out), (by (with_reducible repeat (first | refine blk_drewN ?_ _ | refine blk_drew ?_ | refine blk_alloc ?_ _)); exact BK243.out), (by (with_reducible repeat (first | refine blk_drewN ?_ _ | refine blk_drew ?_ | refine blk_alloc ?_ _)); exact BK256.out), GW256.out, GE256.out, NB242_256.out, NB256_242.out, NB243_256.out, NB256_243.out, (by repeat (first | (with_reducible first | exact HB.out | apply below_alloc | apply pw_below_drewN | apply below_drew1 | refine below_set ?_ GE242.out | refine below_set ?_ GE243.out | refine below_set ?_ GE256.out) | exact HB.out))⟩)
                                   · skip
                                     refine box_step ?hg (N := 10) ?hd (cs := #[.string (⟨#[]⟩ : ByteArray), .int .i64 0, .int .i64 0, .float .f64 0, .bool false, .bool false]) (t := 24) ?hr ?_; (case hd => rfl); (case hg => rfl); (case hr => first | (go_simp; done) | (go_simp; rfl))
                                     intro gb257 hg w19 hbox hb
                                     have n0_ := Aside0.mk (blk_below (g := gb242) (o := .cells #[.string a0_0, .int .i64 a0_1, .int .i64 a0_2, .float .f64 a0_3, .bool a0_4, .bool a0_5] 24 (0, 0)) (by (with_reducible repeat (first | refine blk_drewN ?_ _ | refine blk_drew ?_ | refine blk_alloc ?_ _)); exact BK242.out) hb)
                                     have n1_ := Aside0.mk (blk_below (g := gb243) (o := .cells #[.string a1_0, .int .i64 a1_1, .int .i64 a1_2, .float .f64 a1_3, .bool a1_4, .bool a1_5] 24 (0, 0)) (by (with_reducible repeat (first | refine blk_drewN ?_ _ | refine blk_drew ?_ | refine blk_alloc ?_ _)); exact BK243.out) hb)
                                     have n2_ := Aside0.mk (below_step (by repeat (first | (with_reducible first | exact HB.out | apply below_alloc | apply pw_below_drewN | apply below_drew1 | refine below_set ?_ GE242.out | refine below_set ?_ GE243.out) | exact HB.out)) hb)
                                     have n3_ := Aside0.mk (hbox)
                                     have n4_ := Aside0.mk ((by rw [hg]; exact (below_size (by repeat (first | (with_reducible first | exact HB.out | apply below_alloc | apply pw_below_drewN | apply below_drew1 | refine below_set ?_ GE242.out | refine below_set ?_ GE243.out) | exact HB.out))) : w.heap.size ≤ gb257))
                                     have n5_ := Aside0.mk ((by rw [hg]; exact (below_size (by repeat (first | (with_reducible first | exact HB.out | apply below_alloc | apply pw_below_drewN | apply below_drew1 | refine below_set ?_ GE242.out | refine below_set ?_ GE243.out) | exact HB.out))) : w.heap.size ≤ gb257))
                                     have n6_ := Aside0.mk ((by rw [hg]; exact Nat.ne_of_lt (blk_lt (g := gb242) (o := .cells #[.string a0_0, .int .i64 a0_1, .int .i64 a0_2, .float .f64 a0_3, .bool a0_4, .bool a0_5] 24 (0, 0)) (by (with_reducible repeat (first | refine blk_drewN ?_ _ | refine blk_drew ?_ | refine blk_alloc ?_ _)); exact BK242.out)) : gb242 ≠ gb257))
                                     have n7_ := Aside0.mk ((by rw [hg]; exact Nat.ne_of_gt (blk_lt (g := gb242) (o := .cells #[.string a0_0, .int .i64 a0_1, .int .i64 a0_2, .float .f64 a0_3, .bool a0_4, .bool a0_5] 24 (0, 0)) (by (with_reducible repeat (first | refine blk_drewN ?_ _ | refine blk_drew ?_ | refine blk_alloc ?_ _)); exact BK242.out)) : gb257 ≠ gb242))
                                     have n8_ := Aside0.mk ((by rw [hg]; exact Nat.ne_of_lt (blk_lt (g := gb243) (o := .cells #[.string a1_0, .int .i64 a1_1, .int .i64 a1_2, .float .f64 a1_3, .bool a1_4, .bool a1_5] 24 (0, 0)) (by (with_reducible repeat (first | refine blk_drewN ?_ _ | refine blk_drew ?_ | refine blk_alloc ?_ _)); exact BK243.out)) : gb243 ≠ gb257))
                                     have n9_ := Aside0.mk ((by rw [hg]; exact Nat.ne_of_gt (blk_lt (g := gb243) (o := .cells #[.string a1_0, .int .i64 a1_1, .int .i64 a1_2, .float .f64 a1_3, .bool a1_4, .bool a1_5] 24 (0, 0)) (by (with_reducible repeat (first | refine blk_drewN ?_ _ | refine blk_drew ?_ | refine blk_alloc ?_ _)); exact BK243.out)) : gb257 ≠ gb243))
                                     clear BK242
                                     clear BK243
                                     clear HB
                                     have BK242 := n0_
                                     have BK243 := n1_
                                     have HB := n2_
                                     have BK257 := n3_
                                     have GW257 := n4_
                                     have GE257 := n5_
                                     have NB242_257 := n6_
                                     have NB257_242 := n7_
                                     have NB243_257 := n8_
                                     have NB257_243 := n9_
                                     clear n0_ n1_ n2_ n3_ n4_ n5_ n6_ n7_ n8_ n9_
                                     clear hb hbox hg
                                     refine hK.out _ _ ⟨(blk_cell BK242.out 0).trans rfl, (blk_cell BK242.out 1).trans rfl, (blk_cell BK242.out 2).trans rfl, (blk_cell BK242.out 3).trans rfl, (blk_cell BK242.out 4).trans rfl, (blk_cell BK242.out 5).trans rfl, (blk_cell BK243.out 0).trans rfl, (blk_cell BK243.out 1).trans rfl, (blk_cell BK243.out 2).trans rfl, (blk_cell BK243.out 3).trans rfl, (blk_cell BK243.out 4).trans rfl, (blk_cell BK243.out 5).trans rfl⟩ (fun hHeld => ?_)
                                     clear hK K
                                     refine norm_ (a' := ?_) ?_ ?_
                                     rotate_left
                                     · show Act.put _ (some 10) _ = _
                                       simp only [Act.put, List.setIfInBounds_toArray, List.set_cons_zero, List.set_cons_succ, i64_w, i32_w]
                                       rfl
                                     exact norm_ (by first | (simp only [putAll, Act.put, List.setIfInBounds_toArray, List.set_cons_zero, List.set_cons_succ]; done) | (simp only [putAll, Act.put, List.setIfInBounds_toArray, List.set_cons_zero, List.set_cons_succ]; rfl)) (hJ7 (gb257) _ ⟨hHeld, (by (with_reducible repeat (first | refine blk_drewN ?_ _ | refine blk_drew ?_ | refine blk_alloc ?_ _)); exact BK242.out), (by (with_reducible repeat (first | refine blk_drewN ?_ _ | refine blk_drew ?_ | refine blk_alloc ?_ _)); exact BK243.out), (by (with_reducible repeat (first | refine blk_drewN ?_ _ | refine blk_drew ?_ | refine blk_alloc ?_ _)); exact BK257.out), GW257.out, GE257.out, NB242_257.out, NB257_242.out, NB243_257.out, NB257_243.out, (by repeat (first | (with_reducible first | exact HB.out | apply below_alloc | apply pw_below_drewN | apply below_drew1 | refine below_set ?_ GE242.out | refine below_set ?_ GE243.out | refine below_set ?_ GE257.out) | exact HB.out))⟩)
                                 · skip
                                   rintro gb257 w20 ⟨hS_, h0_, h1_, h2_, h3_, h4_, h5_, h6_, h7_, h8_, h9_⟩
                                   have n0_ : Aside0 (w20.heap[gb242]? = some (.cells #[.string a0_0, .int .i64 a0_1, .int .i64 a0_2, .float .f64 a0_3, .bool a0_4, .bool a0_5] 24 (0, 0))) := ⟨h0_⟩
                                   have n1_ : Aside0 (w20.heap[gb243]? = some (.cells #[.string a1_0, .int .i64 a1_1, .int .i64 a1_2, .float .f64 a1_3, .bool a1_4, .bool a1_5] 24 (0, 0))) := ⟨h1_⟩
                                   have n2_ : Aside0 (w20.heap[gb257]? = some (.cells #[.string (⟨#[]⟩ : ByteArray), .int .i64 0, .int .i64 0, .float .f64 0, .bool false, .bool false] 24 (0, 0))) := ⟨h2_⟩
                                   have n3_ : Aside0 (w.heap.size ≤ gb257) := ⟨h3_⟩
                                   have n4_ : Aside0 (w.heap.size ≤ gb257) := ⟨h4_⟩
                                   have n5_ : Aside0 (gb242 ≠ gb257) := ⟨h5_⟩
                                   have n6_ : Aside0 (gb257 ≠ gb242) := ⟨h6_⟩
                                   have n7_ : Aside0 (gb243 ≠ gb257) := ⟨h7_⟩
                                   have n8_ : Aside0 (gb257 ≠ gb243) := ⟨h8_⟩
                                   have n9_ : Aside0 (Below w.heap.size w w20) := ⟨h9_⟩
                                   clear BK242
                                   clear BK243
                                   clear HB
                                   clear h0_ h1_ h2_ h3_ h4_ h5_ h6_ h7_ h8_ h9_
                                   have BK242 := n0_
                                   have BK243 := n1_
                                   have BK257 := n2_
                                   have GW257 := n3_
                                   have GE257 := n4_
                                   have NB242_257 := n5_
                                   have NB257_242 := n6_
                                   have NB243_257 := n7_
                                   have NB257_243 := n8_
                                   have HB := n9_
                                   clear n0_ n1_ n2_ n3_ n4_ n5_ n6_ n7_ n8_ n9_
                                   have hHeld : w20.cell? ⟨gb242, 0, none⟩ = some (.string a0_0) ∧ w20.cell? ⟨gb242, 1, none⟩ = some (.int .i64 a0_1) ∧ w20.cell? ⟨gb242, 2, none⟩ = some (.int .i64 a0_2) ∧ w20.cell? ⟨gb242, 3, none⟩ = some (.float .f64 a0_3) ∧ w20.cell? ⟨gb242, 4, none⟩ = some (.bool a0_4) ∧ w20.cell? ⟨gb242, 5, none⟩ = some (.bool a0_5) ∧ w20.cell? ⟨gb243, 0, none⟩ = some (.string a1_0) ∧ w20.cell? ⟨gb243, 1, none⟩ = some (.int .i64 a1_1) ∧ w20.cell? ⟨gb243, 2, none⟩ = some (.int .i64 a1_2) ∧ w20.cell? ⟨gb243, 3, none⟩ = some (.float .f64 a1_3) ∧ w20.cell? ⟨gb243, 4, none⟩ = some (.bool a1_4) ∧ w20.cell? ⟨gb243, 5, none⟩ = some (.bool a1_5) := hS_
                                   refine norm_ (a' := ?_) ?_ ?_
                                   rotate_left
                                   · simp only [putAll, Act.put, List.setIfInBounds_toArray, List.set_cons_zero, List.set_cons_succ]
                                     rfl
                                   refine two_ (i := 2) (j := 6) (Ni := some 13) (Nj := some 9) #[true, true, true, true, true, false, false, true, false, false] #[true, true, false, true, true, false, true, true, false, false] rfl rfl rfl rfl (two_of HT_.out (by kernel_rfl)) (by decide) (by decide) (fun K hK => ?_) (fun K hK => ?_)
                                   · skip
                                     refine goes_ Try.func10 (by kernel_rfl) rfl #[.agg #[.string a0_0, .int .i64 a0_1, .int .i64 a0_2, .float .f64 a0_3, .bool a0_4, .bool a0_5], .int .u64 a2] (by rfl) rfl rfl (by (try simp only [List.map_toArray, List.map_cons, List.map_nil]); first | done | rfl | (simp only [List.length_drop, List.length_take]; rfl)) ?_
                                     with_reducible refine (turncocklaw16_of.calls a0_0 a0_1 a0_2 a0_3 a0_4 a0_5 a2 t244 t245 t246 t247 t248 t249 _ A5.out).mono ?_
                                     rintro e w21 ⟨rfl, hb⟩
                                     refine ⟨_, rfl, ?_⟩
                                     have n0_ := Aside0.mk (blk_below (g := gb242) (o := .cells #[.string a0_0, .int .i64 a0_1, .int .i64 a0_2, .float .f64 a0_3, .bool a0_4, .bool a0_5] 24 (0, 0)) (by (with_reducible repeat (first | refine blk_drewN ?_ _ | refine blk_drew ?_ | refine blk_alloc ?_ _)); exact BK242.out) hb)
                                     have n1_ := Aside0.mk (blk_below (g := gb243) (o := .cells #[.string a1_0, .int .i64 a1_1, .int .i64 a1_2, .float .f64 a1_3, .bool a1_4, .bool a1_5] 24 (0, 0)) (by (with_reducible repeat (first | refine blk_drewN ?_ _ | refine blk_drew ?_ | refine blk_alloc ?_ _)); exact BK243.out) hb)
                                     have n2_ := Aside0.mk (blk_below (g := gb257) (o := .cells #[.string (⟨#[]⟩ : ByteArray), .int .i64 0, .int .i64 0, .float .f64 0, .bool false, .bool false] 24 (0, 0)) (by (with_reducible repeat (first | refine blk_drewN ?_ _ | refine blk_drew ?_ | refine blk_alloc ?_ _)); exact BK257.out) hb)
                                     have n3_ := Aside0.mk (below_step (by repeat (first | (with_reducible first | exact HB.out | apply below_alloc | apply pw_below_drewN | apply below_drew1 | refine below_set ?_ GE242.out | refine below_set ?_ GE243.out | refine below_set ?_ GE257.out) | exact HB.out)) hb)
                                     clear BK242
                                     clear BK243
                                     clear BK257
                                     clear HB
                                     have BK242 := n0_
                                     have BK243 := n1_
                                     have BK257 := n2_
                                     have HB := n3_
                                     clear n0_ n1_ n2_ n3_
                                     (try clear hb)
                                     (try clear hb2)
                                     (try clear hk)
                                     (try clear hi)
                                     refine hK.out _ _ ⟨(blk_cell BK242.out 0).trans rfl, (blk_cell BK242.out 1).trans rfl, (blk_cell BK242.out 2).trans rfl, (blk_cell BK242.out 3).trans rfl, (blk_cell BK242.out 4).trans rfl, (blk_cell BK242.out 5).trans rfl, (blk_cell BK243.out 0).trans rfl, (blk_cell BK243.out 1).trans rfl, (blk_cell BK243.out 2).trans rfl, (blk_cell BK243.out 3).trans rfl, (blk_cell BK243.out 4).trans rfl, (blk_cell BK243.out 5).trans rfl⟩ (fun hHeld => ?_)
                                     clear hK K
                                     refine norm_ (a' := ?_) ?_ ?_
                                     rotate_left
                                     · show Act.put _ (some 13) _ = _
                                       simp only [Act.put, List.setIfInBounds_toArray, List.set_cons_zero, List.set_cons_succ, i64_w, i32_w]
                                       rfl
                                     exact norm_ (by first | (simp only [putAll, Act.put, List.setIfInBounds_toArray, List.set_cons_zero, List.set_cons_succ]; done) | (simp only [putAll, Act.put, List.setIfInBounds_toArray, List.set_cons_zero, List.set_cons_succ]; rfl)) (hJ2_7 (gb257) _ ⟨hHeld, (by (with_reducible repeat (first | refine blk_drewN ?_ _ | refine blk_drew ?_ | refine blk_alloc ?_ _)); exact BK242.out), (by (with_reducible repeat (first | refine blk_drewN ?_ _ | refine blk_drew ?_ | refine blk_alloc ?_ _)); exact BK243.out), (by (with_reducible repeat (first | refine blk_drewN ?_ _ | refine blk_drew ?_ | refine blk_alloc ?_ _)); exact BK257.out), GW257.out, GE257.out, NB242_257.out, NB257_242.out, NB243_257.out, NB257_243.out, (by repeat (first | (with_reducible first | exact HB.out | apply below_alloc | apply pw_below_drewN | apply below_drew1 | refine below_set ?_ GE242.out | refine below_set ?_ GE243.out | refine below_set ?_ GE257.out) | exact HB.out))⟩)
                                   · skip
                                     refine box_step ?hg (N := 9) ?hd (cs := #[.string (⟨#[]⟩ : ByteArray), .int .i64 0, .int .i64 0, .float .f64 0, .bool false, .bool false]) (t := 24) ?hr ?_; (case hd => rfl); (case hg => rfl); (case hr => first | (go_simp; done) | (go_simp; rfl))
                                     intro gb256 hg w21 hbox hb
                                     have n0_ := Aside0.mk (blk_below (g := gb242) (o := .cells #[.string a0_0, .int .i64 a0_1, .int .i64 a0_2, .float .f64 a0_3, .bool a0_4, .bool a0_5] 24 (0, 0)) (by (with_reducible repeat (first | refine blk_drewN ?_ _ | refine blk_drew ?_ | refine blk_alloc ?_ _)); exact BK242.out) hb)
                                     have n1_ := Aside0.mk (blk_below (g := gb243) (o := .cells #[.string a1_0, .int .i64 a1_1, .int .i64 a1_2, .float .f64 a1_3, .bool a1_4, .bool a1_5] 24 (0, 0)) (by (with_reducible repeat (first | refine blk_drewN ?_ _ | refine blk_drew ?_ | refine blk_alloc ?_ _)); exact BK243.out) hb)
                                     have n2_ := Aside0.mk (blk_below (g := gb257) (o := .cells #[.string (⟨#[]⟩ : ByteArray), .int .i64 0, .int .i64 0, .float .f64 0, .bool false, .bool false] 24 (0, 0)) (by (with_reducible repeat (first | refine blk_drewN ?_ _ | refine blk_drew ?_ | refine blk_alloc ?_ _)); exact BK257.out) hb)
                                     have n3_ := Aside0.mk (below_step (by repeat (first | (with_reducible first | exact HB.out | apply below_alloc | apply pw_below_drewN | apply below_drew1 | refine below_set ?_ GE242.out | refine below_set ?_ GE243.out | refine below_set ?_ GE257.out) | exact HB.out)) hb)
                                     have n4_ := Aside0.mk (hbox)
                                     have n5_ := Aside0.mk ((by rw [hg]; exact (below_size (by repeat (first | (with_reducible first | exact HB.out | apply below_alloc | apply pw_below_drewN | apply below_drew1 | refine below_set ?_ GE242.out | refine below_set ?_ GE243.out | refine below_set ?_ GE257.out) | exact HB.out))) : w.heap.size ≤ gb256))
                                     have n6_ := Aside0.mk ((by rw [hg]; exact (below_size (by repeat (first | (with_reducible first | exact HB.out | apply below_alloc | apply pw_below_drewN | apply below_drew1 | refine below_set ?_ GE242.out | refine below_set ?_ GE243.out | refine below_set ?_ GE257.out) | exact HB.out))) : w.heap.size ≤ gb256))
                                     have n7_ := Aside0.mk ((by rw [hg]; exact Nat.ne_of_lt (blk_lt (g := gb242) (o := .cells #[.string a0_0, .int .i64 a0_1, .int .i64 a0_2, .float .f64 a0_3, .bool a0_4, .bool a0_5] 24 (0, 0)) (by (with_reducible repeat (first | refine blk_drewN ?_ _ | refine blk_drew ?_ | refine blk_alloc ?_ _)); exact BK242.out)) : gb242 ≠ gb256))
                                     have n8_ := Aside0.mk ((by rw [hg]; exact Nat.ne_of_gt (blk_lt (g := gb242) (o := .cells #[.string a0_0, .int .i64 a0_1, .int .i64 a0_2, .float .f64 a0_3, .bool a0_4, .bool a0_5] 24 (0, 0)) (by (with_reducible repeat (first | refine blk_drewN ?_ _ | refine blk_drew ?_ | refine blk_alloc ?_ _)); exact BK242.out)) : gb256 ≠ gb242))
                                     have n9_ := Aside0.mk ((by rw [hg]; exact Nat.ne_of_lt (blk_lt (g := gb243) (o := .cells #[.string a1_0, .int .i64 a1_1, .int .i64 a1_2, .float .f64 a1_3, .bool a1_4, .bool a1_5] 24 (0, 0)) (by (with_reducible repeat (first | refine blk_drewN ?_ _ | refine blk_drew ?_ | refine blk_alloc ?_ _)); exact BK243.out)) : gb243 ≠ gb256))
                                     have n10_ := Aside0.mk ((by rw [hg]; exact Nat.ne_of_gt (blk_lt (g := gb243) (o := .cells #[.string a1_0, .int .i64 a1_1, .int .i64 a1_2, .float .f64 a1_3, .bool a1_4, .bool a1_5] 24 (0, 0)) (by (with_reducible repeat (first | refine blk_drewN ?_ _ | refine blk_drew ?_ | refine blk_alloc ?_ _)); exact BK243.out)) : gb256 ≠ gb243))
                                     have n11_ := Aside0.mk ((by rw [hg]; exact Nat.ne_of_lt (blk_lt (g := gb257) (o := .cells #[.string (⟨#[]⟩ : ByteArray), .int .i64 0, .int .i64 0, .float .f64 0, .bool false, .bool false] 24 (0, 0)) (by (with_reducible repeat (first | refine blk_drewN ?_ _ | refine blk_drew ?_ | refine blk_alloc ?_ _)); exact BK257.out)) : gb257 ≠ gb256))
                                     have n12_ := Aside0.mk ((by rw [hg]; exact Nat.ne_of_gt (blk_lt (g := gb257) (o := .cells #[.string (⟨#[]⟩ : ByteArray), .int .i64 0, .int .i64 0, .float .f64 0, .bool false, .bool false] 24 (0, 0)) (by (with_reducible repeat (first | refine blk_drewN ?_ _ | refine blk_drew ?_ | refine blk_alloc ?_ _)); exact BK257.out)) : gb256 ≠ gb257))
                                     clear BK242
                                     clear BK243
                                     clear BK257
                                     clear HB
                                     have BK242 := n0_
                                     have BK243 := n1_
                                     have BK257 := n2_
                                     have HB := n3_
                                     have BK256 := n4_
                                     have GW256 := n5_
                                     have GE256 := n6_
                                     have NB242_256 := n7_
                                     have NB256_242 := n8_
                                     have NB243_256 := n9_
                                     have NB256_243 := n10_
                                     have NB257_256 := n11_
                                     have NB256_257 := n12_
                                     clear n0_ n1_ n2_ n3_ n4_ n5_ n6_ n7_ n8_ n9_ n10_ n11_ n12_
                                     clear hb hbox hg
                                     refine hK.out _ _ ⟨(blk_cell BK242.out 0).trans rfl, (blk_cell BK242.out 1).trans rfl, (blk_cell BK242.out 2).trans rfl, (blk_cell BK242.out 3).trans rfl, (blk_cell BK242.out 4).trans rfl, (blk_cell BK242.out 5).trans rfl, (blk_cell BK243.out 0).trans rfl, (blk_cell BK243.out 1).trans rfl, (blk_cell BK243.out 2).trans rfl, (blk_cell BK243.out 3).trans rfl, (blk_cell BK243.out 4).trans rfl, (blk_cell BK243.out 5).trans rfl⟩ (fun hHeld => ?_)
                                     clear hK K
                                     refine norm_ (a' := ?_) ?_ ?_
                                     rotate_left
                                     · show Act.put _ (some 9) _ = _
                                       simp only [Act.put, List.setIfInBounds_toArray, List.set_cons_zero, List.set_cons_succ, i64_w, i32_w]
                                       rfl
                                     exact norm_ (by first | (simp only [putAll, Act.put, List.setIfInBounds_toArray, List.set_cons_zero, List.set_cons_succ]; done) | (simp only [putAll, Act.put, List.setIfInBounds_toArray, List.set_cons_zero, List.set_cons_succ]; rfl)) (hJ6_7 (gb256, gb257) _ ⟨hHeld, (by (with_reducible repeat (first | refine blk_drewN ?_ _ | refine blk_drew ?_ | refine blk_alloc ?_ _)); exact BK242.out), (by (with_reducible repeat (first | refine blk_drewN ?_ _ | refine blk_drew ?_ | refine blk_alloc ?_ _)); exact BK243.out), (by (with_reducible repeat (first | refine blk_drewN ?_ _ | refine blk_drew ?_ | refine blk_alloc ?_ _)); exact BK256.out), (by (with_reducible repeat (first | refine blk_drewN ?_ _ | refine blk_drew ?_ | refine blk_alloc ?_ _)); exact BK257.out), GW256.out, GE256.out, NB242_256.out, NB256_242.out, NB243_256.out, NB256_243.out, NB257_256.out, NB256_257.out, GW257.out, GE257.out, NB242_257.out, NB257_242.out, NB243_257.out, NB257_243.out, (by repeat (first | (with_reducible first | exact HB.out | apply below_alloc | apply pw_below_drewN | apply below_drew1 | refine below_set ?_ GE242.out | refine below_set ?_ GE243.out | refine below_set ?_ GE257.out | refine below_set ?_ GE256.out) | exact HB.out))⟩)
                               · skip
                                 rintro gb256 w20 ⟨hS_, h0_, h1_, h2_, h3_, h4_, h5_, h6_, h7_, h8_, h9_⟩
                                 have n0_ : Aside0 (w20.heap[gb242]? = some (.cells #[.string a0_0, .int .i64 a0_1, .int .i64 a0_2, .float .f64 a0_3, .bool a0_4, .bool a0_5] 24 (0, 0))) := ⟨h0_⟩
                                 have n1_ : Aside0 (w20.heap[gb243]? = some (.cells #[.string a1_0, .int .i64 a1_1, .int .i64 a1_2, .float .f64 a1_3, .bool a1_4, .bool a1_5] 24 (0, 0))) := ⟨h1_⟩
                                 have n2_ : Aside0 (w20.heap[gb256]? = some (.cells #[.string (⟨#[]⟩ : ByteArray), .int .i64 0, .int .i64 0, .float .f64 0, .bool false, .bool false] 24 (0, 0))) := ⟨h2_⟩
                                 have n3_ : Aside0 (w.heap.size ≤ gb256) := ⟨h3_⟩
                                 have n4_ : Aside0 (w.heap.size ≤ gb256) := ⟨h4_⟩
                                 have n5_ : Aside0 (gb242 ≠ gb256) := ⟨h5_⟩
                                 have n6_ : Aside0 (gb256 ≠ gb242) := ⟨h6_⟩
                                 have n7_ : Aside0 (gb243 ≠ gb256) := ⟨h7_⟩
                                 have n8_ : Aside0 (gb256 ≠ gb243) := ⟨h8_⟩
                                 have n9_ : Aside0 (Below w.heap.size w w20) := ⟨h9_⟩
                                 clear BK242
                                 clear BK243
                                 clear HB
                                 clear h0_ h1_ h2_ h3_ h4_ h5_ h6_ h7_ h8_ h9_
                                 have BK242 := n0_
                                 have BK243 := n1_
                                 have BK256 := n2_
                                 have GW256 := n3_
                                 have GE256 := n4_
                                 have NB242_256 := n5_
                                 have NB256_242 := n6_
                                 have NB243_256 := n7_
                                 have NB256_243 := n8_
                                 have HB := n9_
                                 clear n0_ n1_ n2_ n3_ n4_ n5_ n6_ n7_ n8_ n9_
                                 have hHeld : w20.cell? ⟨gb242, 0, none⟩ = some (.string a0_0) ∧ w20.cell? ⟨gb242, 1, none⟩ = some (.int .i64 a0_1) ∧ w20.cell? ⟨gb242, 2, none⟩ = some (.int .i64 a0_2) ∧ w20.cell? ⟨gb242, 3, none⟩ = some (.float .f64 a0_3) ∧ w20.cell? ⟨gb242, 4, none⟩ = some (.bool a0_4) ∧ w20.cell? ⟨gb242, 5, none⟩ = some (.bool a0_5) ∧ w20.cell? ⟨gb243, 0, none⟩ = some (.string a1_0) ∧ w20.cell? ⟨gb243, 1, none⟩ = some (.int .i64 a1_1) ∧ w20.cell? ⟨gb243, 2, none⟩ = some (.int .i64 a1_2) ∧ w20.cell? ⟨gb243, 3, none⟩ = some (.float .f64 a1_3) ∧ w20.cell? ⟨gb243, 4, none⟩ = some (.bool a1_4) ∧ w20.cell? ⟨gb243, 5, none⟩ = some (.bool a1_5) := hS_
                                 refine norm_ (a' := ?_) ?_ ?_
                                 rotate_left
                                 · simp only [putAll, Act.put, List.setIfInBounds_toArray, List.set_cons_zero, List.set_cons_succ]
                                   rfl
                                 refine two_ (i := 2) (j := 7) (Ni := some 13) (Nj := some 10) #[true, true, true, true, true, false, true, false, false, false] #[true, true, false, true, true, false, true, true, false, false] rfl rfl rfl rfl (two_of HT_.out (by kernel_rfl)) (by decide) (by decide) (fun K hK => ?_) (fun K hK => ?_)
                                 · skip
                                   refine goes_ Try.func10 (by kernel_rfl) rfl #[.agg #[.string a0_0, .int .i64 a0_1, .int .i64 a0_2, .float .f64 a0_3, .bool a0_4, .bool a0_5], .int .u64 a2] (by rfl) rfl rfl (by (try simp only [List.map_toArray, List.map_cons, List.map_nil]); first | done | rfl | (simp only [List.length_drop, List.length_take]; rfl)) ?_
                                   with_reducible refine (turncocklaw16_of.calls a0_0 a0_1 a0_2 a0_3 a0_4 a0_5 a2 t244 t245 t246 t247 t248 t249 _ A5.out).mono ?_
                                   rintro e w21 ⟨rfl, hb⟩
                                   refine ⟨_, rfl, ?_⟩
                                   have n0_ := Aside0.mk (blk_below (g := gb242) (o := .cells #[.string a0_0, .int .i64 a0_1, .int .i64 a0_2, .float .f64 a0_3, .bool a0_4, .bool a0_5] 24 (0, 0)) (by (with_reducible repeat (first | refine blk_drewN ?_ _ | refine blk_drew ?_ | refine blk_alloc ?_ _)); exact BK242.out) hb)
                                   have n1_ := Aside0.mk (blk_below (g := gb243) (o := .cells #[.string a1_0, .int .i64 a1_1, .int .i64 a1_2, .float .f64 a1_3, .bool a1_4, .bool a1_5] 24 (0, 0)) (by (with_reducible repeat (first | refine blk_drewN ?_ _ | refine blk_drew ?_ | refine blk_alloc ?_ _)); exact BK243.out) hb)
                                   have n2_ := Aside0.mk (blk_below (g := gb256) (o := .cells #[.string (⟨#[]⟩ : ByteArray), .int .i64 0, .int .i64 0, .float .f64 0, .bool false, .bool false] 24 (0, 0)) (by (with_reducible repeat (first | refine blk_drewN ?_ _ | refine blk_drew ?_ | refine blk_alloc ?_ _)); exact BK256.out) hb)
                                   have n3_ := Aside0.mk (below_step (by repeat (first | (with_reducible first | exact HB.out | apply below_alloc | apply pw_below_drewN | apply below_drew1 | refine below_set ?_ GE242.out | refine below_set ?_ GE243.out | refine below_set ?_ GE256.out) | exact HB.out)) hb)
                                   clear BK242
                                   clear BK243
                                   clear BK256
                                   clear HB
                                   have BK242 := n0_
                                   have BK243 := n1_
                                   have BK256 := n2_
                                   have HB := n3_
                                   clear n0_ n1_ n2_ n3_
                                   (try clear hb)
                                   (try clear hb2)
                                   (try clear hk)
                                   (try clear hi)
                                   refine hK.out _ _ ⟨(blk_cell BK242.out 0).trans rfl, (blk_cell BK242.out 1).trans rfl, (blk_cell BK242.out 2).trans rfl, (blk_cell BK242.out 3).trans rfl, (blk_cell BK242.out 4).trans rfl, (blk_cell BK242.out 5).trans rfl, (blk_cell BK243.out 0).trans rfl, (blk_cell BK243.out 1).trans rfl, (blk_cell BK243.out 2).trans rfl, (blk_cell BK243.out 3).trans rfl, (blk_cell BK243.out 4).trans rfl, (blk_cell BK243.out 5).trans rfl⟩ (fun hHeld => ?_)
                                   clear hK K
                                   refine norm_ (a' := ?_) ?_ ?_
                                   rotate_left
                                   · show Act.put _ (some 13) _ = _
                                     simp only [Act.put, List.setIfInBounds_toArray, List.set_cons_zero, List.set_cons_succ, i64_w, i32_w]
                                     rfl
                                   exact norm_ (by first | (simp only [putAll, Act.put, List.setIfInBounds_toArray, List.set_cons_zero, List.set_cons_succ]; done) | (simp only [putAll, Act.put, List.setIfInBounds_toArray, List.set_cons_zero, List.set_cons_succ]; rfl)) (hJ2_6 (gb256) _ ⟨hHeld, (by (with_reducible repeat (first | refine blk_drewN ?_ _ | refine blk_drew ?_ | refine blk_alloc ?_ _)); exact BK242.out), (by (with_reducible repeat (first | refine blk_drewN ?_ _ | refine blk_drew ?_ | refine blk_alloc ?_ _)); exact BK243.out), (by (with_reducible repeat (first | refine blk_drewN ?_ _ | refine blk_drew ?_ | refine blk_alloc ?_ _)); exact BK256.out), GW256.out, GE256.out, NB242_256.out, NB256_242.out, NB243_256.out, NB256_243.out, (by repeat (first | (with_reducible first | exact HB.out | apply below_alloc | apply pw_below_drewN | apply below_drew1 | refine below_set ?_ GE242.out | refine below_set ?_ GE243.out | refine below_set ?_ GE256.out) | exact HB.out))⟩)
                                 · skip
                                   refine box_step ?hg (N := 10) ?hd (cs := #[.string (⟨#[]⟩ : ByteArray), .int .i64 0, .int .i64 0, .float .f64 0, .bool false, .bool false]) (t := 24) ?hr ?_; (case hd => rfl); (case hg => rfl); (case hr => first | (go_simp; done) | (go_simp; rfl))
                                   intro gb257 hg w21 hbox hb
                                   have n0_ := Aside0.mk (blk_below (g := gb242) (o := .cells #[.string a0_0, .int .i64 a0_1, .int .i64 a0_2, .float .f64 a0_3, .bool a0_4, .bool a0_5] 24 (0, 0)) (by (with_reducible repeat (first | refine blk_drewN ?_ _ | refine blk_drew ?_ | refine blk_alloc ?_ _)); exact BK242.out) hb)
                                   have n1_ := Aside0.mk (blk_below (g := gb243) (o := .cells #[.string a1_0, .int .i64 a1_1, .int .i64 a1_2, .float .f64 a1_3, .bool a1_4, .bool a1_5] 24 (0, 0)) (by (with_reducible repeat (first | refine blk_drewN ?_ _ | refine blk_drew ?_ | refine blk_alloc ?_ _)); exact BK243.out) hb)
                                   have n2_ := Aside0.mk (blk_below (g := gb256) (o := .cells #[.string (⟨#[]⟩ : ByteArray), .int .i64 0, .int .i64 0, .float .f64 0, .bool false, .bool false] 24 (0, 0)) (by (with_reducible repeat (first | refine blk_drewN ?_ _ | refine blk_drew ?_ | refine blk_alloc ?_ _)); exact BK256.out) hb)
                                   have n3_ := Aside0.mk (below_step (by repeat (first | (with_reducible first | exact HB.out | apply below_alloc | apply pw_below_drewN | apply below_drew1 | refine below_set ?_ GE242.out | refine below_set ?_ GE243.out | refine below_set ?_ GE256.out) | exact HB.out)) hb)
                                   have n4_ := Aside0.mk (hbox)
                                   have n5_ := Aside0.mk ((by rw [hg]; exact (below_size (by repeat (first | (with_reducible first | exact HB.out | apply below_alloc | apply pw_below_drewN | apply below_drew1 | refine below_set ?_ GE242.out | refine below_set ?_ GE243.out | refine below_set ?_ GE256.out) | exact HB.out))) : w.heap.size ≤ gb257))
                                   have n6_ := Aside0.mk ((by rw [hg]; exact (below_size (by repeat (first | (with_reducible first | exact HB.out | apply below_alloc | apply pw_below_drewN | apply below_drew1 | refine below_set ?_ GE242.out | refine below_set ?_ GE243.out | refine below_set ?_ GE256.out) | exact HB.out))) : w.heap.size ≤ gb257))
                                   have n7_ := Aside0.mk ((by rw [hg]; exact Nat.ne_of_lt (blk_lt (g := gb242) (o := .cells #[.string a0_0, .int .i64 a0_1, .int .i64 a0_2, .float .f64 a0_3, .bool a0_4, .bool a0_5] 24 (0, 0)) (by (with_reducible repeat (first | refine blk_drewN ?_ _ | refine blk_drew ?_ | refine blk_alloc ?_ _)); exact BK242.out)) : gb242 ≠ gb257))
                                   have n8_ := Aside0.mk ((by rw [hg]; exact Nat.ne_of_gt (blk_lt (g := gb242) (o := .cells #[.string a0_0, .int .i64 a0_1, .int .i64 a0_2, .float .f64 a0_3, .bool a0_4, .bool a0_5] 24 (0, 0)) (by (with_reducible repeat (first | refine blk_drewN ?_ _ | refine blk_drew ?_ | refine blk_alloc ?_ _)); exact BK242.out)) : gb257 ≠ gb242))
                                   have n9_ := Aside0.mk ((by rw [hg]; exact Nat.ne_of_lt (blk_lt (g := gb243) (o := .cells #[.string a1_0, .int .i64 a1_1, .int .i64 a1_2, .float .f64 a1_3, .bool a1_4, .bool a1_5] 24 (0, 0)) (by (with_reducible repeat (first | refine blk_drewN ?_ _ | refine blk_drew ?_ | refine blk_alloc ?_ _)); exact BK243.out)) : gb243 ≠ gb257))
                                   have n10_ := Aside0.mk ((by rw [hg]; exact Nat.ne_of_gt (blk_lt (g := gb243) (o := .cells #[.string a1_0, .int .i64 a1_1, .int .i64 a1_2, .float .f64 a1_3, .bool a1_4, .bool a1_5] 24 (0, 0)) (by (with_reducible repeat (first | refine blk_drewN ?_ _ | refine blk_drew ?_ | refine blk_alloc ?_ _)); exact BK243.out)) : gb257 ≠ gb243))
                                   have n11_ := Aside0.mk ((by rw [hg]; exact Nat.ne_of_lt (blk_lt (g := gb256) (o := .cells #[.string (⟨#[]⟩ : ByteArray), .int .i64 0, .int .i64 0, .float .f64 0, .bool false, .bool false] 24 (0, 0)) (by (with_reducible repeat (first | refine blk_drewN ?_ _ | refine blk_drew ?_ | refine blk_alloc ?_ _)); exact BK256.out)) : gb256 ≠ gb257))
                                   have n12_ := Aside0.mk ((by rw [hg]; exact Nat.ne_of_gt (blk_lt (g := gb256) (o := .cells #[.string (⟨#[]⟩ : ByteArray), .int .i64 0, .int .i64 0, .float .f64 0, .bool false, .bool false] 24 (0, 0)) (by (with_reducible repeat (first | refine blk_drewN ?_ _ | refine blk_drew ?_ | refine blk_alloc ?_ _)); exact BK256.out)) : gb257 ≠ gb256))
                                   clear BK242
                                   clear BK243
                                   clear BK256
                                   clear HB
                                   have BK242 := n0_
                                   have BK243 := n1_
                                   have BK256 := n2_
                                   have HB := n3_
                                   have BK257 := n4_
                                   have GW257 := n5_
                                   have GE257 := n6_
                                   have NB242_257 := n7_
                                   have NB257_242 := n8_
                                   have NB243_257 := n9_
                                   have NB257_243 := n10_
                                   have NB256_257 := n11_
                                   have NB257_256 := n12_
                                   clear n0_ n1_ n2_ n3_ n4_ n5_ n6_ n7_ n8_ n9_ n10_ n11_ n12_
                                   clear hb hbox hg
                                   refine hK.out _ _ ⟨(blk_cell BK242.out 0).trans rfl, (blk_cell BK242.out 1).trans rfl, (blk_cell BK242.out 2).trans rfl, (blk_cell BK242.out 3).trans rfl, (blk_cell BK242.out 4).trans rfl, (blk_cell BK242.out 5).trans rfl, (blk_cell BK243.out 0).trans rfl, (blk_cell BK243.out 1).trans rfl, (blk_cell BK243.out 2).trans rfl, (blk_cell BK243.out 3).trans rfl, (blk_cell BK243.out 4).trans rfl, (blk_cell BK243.out 5).trans rfl⟩ (fun hHeld => ?_)
                                   clear hK K
                                   refine norm_ (a' := ?_) ?_ ?_
                                   rotate_left
                                   · show Act.put _ (some 10) _ = _
                                     simp only [Act.put, List.setIfInBounds_toArray, List.set_cons_zero, List.set_cons_succ, i64_w, i32_w]
                                     rfl
                                   exact norm_ (by first | (simp only [putAll, Act.put, List.setIfInBounds_toArray, List.set_cons_zero, List.set_cons_succ]; done) | (simp only [putAll, Act.put, List.setIfInBounds_toArray, List.set_cons_zero, List.set_cons_succ]; rfl)) (hJ6_7 (gb256, gb257) _ ⟨hHeld, (by (with_reducible repeat (first | refine blk_drewN ?_ _ | refine blk_drew ?_ | refine blk_alloc ?_ _)); exact BK242.out), (by (with_reducible repeat (first | refine blk_drewN ?_ _ | refine blk_drew ?_ | refine blk_alloc ?_ _)); exact BK243.out), (by (with_reducible repeat (first | refine blk_drewN ?_ _ | refine blk_drew ?_ | refine blk_alloc ?_ _)); exact BK256.out), (by (with_reducible repeat (first | refine blk_drewN ?_ _ | refine blk_drew ?_ | refine blk_alloc ?_ _)); exact BK257.out), GW256.out, GE256.out, NB242_256.out, NB256_242.out, NB243_256.out, NB256_243.out, NB257_256.out, NB256_257.out, GW257.out, GE257.out, NB242_257.out, NB257_242.out, NB243_257.out, NB257_243.out, (by repeat (first | (with_reducible first | exact HB.out | apply below_alloc | apply pw_below_drewN | apply below_drew1 | refine below_set ?_ GE242.out | refine below_set ?_ GE243.out | refine below_set ?_ GE256.out | refine below_set ?_ GE257.out) | exact HB.out))⟩)
                             · skip
                               rintro _ w20 ⟨hS_, h0_, h1_, h2_⟩
                               have n0_ : Aside0 (w20.heap[gb242]? = some (.cells #[.string a0_0, .int .i64 a0_1, .int .i64 a0_2, .float .f64 a0_3, .bool a0_4, .bool a0_5] 24 (0, 0))) := ⟨h0_⟩
                               have n1_ : Aside0 (w20.heap[gb243]? = some (.cells #[.string a1_0, .int .i64 a1_1, .int .i64 a1_2, .float .f64 a1_3, .bool a1_4, .bool a1_5] 24 (0, 0))) := ⟨h1_⟩
                               have n2_ : Aside0 (Below w.heap.size w w20) := ⟨h2_⟩
                               clear BK242
                               clear BK243
                               clear HB
                               clear h0_ h1_ h2_
                               have BK242 := n0_
                               have BK243 := n1_
                               have HB := n2_
                               clear n0_ n1_ n2_
                               have hHeld : w20.cell? ⟨gb242, 0, none⟩ = some (.string a0_0) ∧ w20.cell? ⟨gb242, 1, none⟩ = some (.int .i64 a0_1) ∧ w20.cell? ⟨gb242, 2, none⟩ = some (.int .i64 a0_2) ∧ w20.cell? ⟨gb242, 3, none⟩ = some (.float .f64 a0_3) ∧ w20.cell? ⟨gb242, 4, none⟩ = some (.bool a0_4) ∧ w20.cell? ⟨gb242, 5, none⟩ = some (.bool a0_5) ∧ w20.cell? ⟨gb243, 0, none⟩ = some (.string a1_0) ∧ w20.cell? ⟨gb243, 1, none⟩ = some (.int .i64 a1_1) ∧ w20.cell? ⟨gb243, 2, none⟩ = some (.int .i64 a1_2) ∧ w20.cell? ⟨gb243, 3, none⟩ = some (.float .f64 a1_3) ∧ w20.cell? ⟨gb243, 4, none⟩ = some (.bool a1_4) ∧ w20.cell? ⟨gb243, 5, none⟩ = some (.bool a1_5) := hS_
                               refine norm_ (a' := ?_) ?_ ?_
                               rotate_left
                               · simp only [putAll, Act.put, List.setIfInBounds_toArray, List.set_cons_zero, List.set_cons_succ]
                                 rfl
                               refine three_ (i := 5) (j := 6) (k := 7) (Ni := some 16) (Nj := some 9) (Nk := some 10) #[true, true, true, true, true, true, false, false, false, false] #[true, true, true, true, true, false, true, false, false, false] #[true, true, true, true, true, false, false, true, false, false] rfl rfl rfl rfl rfl rfl (three_of HT_.out (by kernel_rfl)) (by decide) (by decide) (by decide) (fun K hK => ?_) (fun K hK => ?_) (fun K hK => ?_)
                               · skip
                                 refine goes_ Try.func10 (by kernel_rfl) rfl #[.agg #[.string a1_0, .int .i64 a1_1, .int .i64 a1_2, .float .f64 a1_3, .bool a1_4, .bool a1_5], .int .u64 a3] (by rfl) rfl rfl (by (try simp only [List.map_toArray, List.map_cons, List.map_nil]); first | done | rfl | (simp only [List.length_drop, List.length_take]; rfl)) ?_
                                 with_reducible refine (turncocklaw16_of.calls a1_0 a1_1 a1_2 a1_3 a1_4 a1_5 a3 t250 t251 t252 t253 t254 t255 _ A6.out).mono ?_
                                 rintro e w21 ⟨rfl, hb⟩
                                 refine ⟨_, rfl, ?_⟩
                                 have n0_ := Aside0.mk (blk_below (g := gb242) (o := .cells #[.string a0_0, .int .i64 a0_1, .int .i64 a0_2, .float .f64 a0_3, .bool a0_4, .bool a0_5] 24 (0, 0)) (by (with_reducible repeat (first | refine blk_drewN ?_ _ | refine blk_drew ?_ | refine blk_alloc ?_ _)); exact BK242.out) hb)
                                 have n1_ := Aside0.mk (blk_below (g := gb243) (o := .cells #[.string a1_0, .int .i64 a1_1, .int .i64 a1_2, .float .f64 a1_3, .bool a1_4, .bool a1_5] 24 (0, 0)) (by (with_reducible repeat (first | refine blk_drewN ?_ _ | refine blk_drew ?_ | refine blk_alloc ?_ _)); exact BK243.out) hb)
                                 have n2_ := Aside0.mk (below_step (by repeat (first | (with_reducible first | exact HB.out | apply below_alloc | apply pw_below_drewN | apply below_drew1 | refine below_set ?_ GE242.out | refine below_set ?_ GE243.out) | exact HB.out)) hb)
                                 clear BK242
                                 clear BK243
                                 clear HB
                                 have BK242 := n0_
                                 have BK243 := n1_
                                 have HB := n2_
                                 clear n0_ n1_ n2_
                                 (try clear hb)
                                 (try clear hb2)
                                 (try clear hk)
                                 (try clear hi)
                                 refine hK.out _ _ ⟨(blk_cell BK242.out 0).trans rfl, (blk_cell BK242.out 1).trans rfl, (blk_cell BK242.out 2).trans rfl, (blk_cell BK242.out 3).trans rfl, (blk_cell BK242.out 4).trans rfl, (blk_cell BK242.out 5).trans rfl, (blk_cell BK243.out 0).trans rfl, (blk_cell BK243.out 1).trans rfl, (blk_cell BK243.out 2).trans rfl, (blk_cell BK243.out 3).trans rfl, (blk_cell BK243.out 4).trans rfl, (blk_cell BK243.out 5).trans rfl⟩ (fun hHeld => ?_)
                                 clear hK K
                                 refine norm_ (a' := ?_) ?_ ?_
                                 rotate_left
                                 · show Act.put _ (some 16) _ = _
                                   simp only [Act.put, List.setIfInBounds_toArray, List.set_cons_zero, List.set_cons_succ, i64_w, i32_w]
                                   rfl
                                 exact norm_ (by first | (simp only [putAll, Act.put, List.setIfInBounds_toArray, List.set_cons_zero, List.set_cons_succ]; done) | (simp only [putAll, Act.put, List.setIfInBounds_toArray, List.set_cons_zero, List.set_cons_succ]; rfl)) (hJ2_5 () _ ⟨hHeld, (by (with_reducible repeat (first | refine blk_drewN ?_ _ | refine blk_drew ?_ | refine blk_alloc ?_ _)); exact BK242.out), (by (with_reducible repeat (first | refine blk_drewN ?_ _ | refine blk_drew ?_ | refine blk_alloc ?_ _)); exact BK243.out), (by repeat (first | (with_reducible first | exact HB.out | apply below_alloc | apply pw_below_drewN | apply below_drew1 | refine below_set ?_ GE242.out | refine below_set ?_ GE243.out) | exact HB.out))⟩)
                               · skip
                                 refine box_step ?hg (N := 9) ?hd (cs := #[.string (⟨#[]⟩ : ByteArray), .int .i64 0, .int .i64 0, .float .f64 0, .bool false, .bool false]) (t := 24) ?hr ?_; (case hd => rfl); (case hg => rfl); (case hr => first | (go_simp; done) | (go_simp; rfl))
                                 intro gb256 hg w21 hbox hb
                                 have n0_ := Aside0.mk (blk_below (g := gb242) (o := .cells #[.string a0_0, .int .i64 a0_1, .int .i64 a0_2, .float .f64 a0_3, .bool a0_4, .bool a0_5] 24 (0, 0)) (by (with_reducible repeat (first | refine blk_drewN ?_ _ | refine blk_drew ?_ | refine blk_alloc ?_ _)); exact BK242.out) hb)
                                 have n1_ := Aside0.mk (blk_below (g := gb243) (o := .cells #[.string a1_0, .int .i64 a1_1, .int .i64 a1_2, .float .f64 a1_3, .bool a1_4, .bool a1_5] 24 (0, 0)) (by (with_reducible repeat (first | refine blk_drewN ?_ _ | refine blk_drew ?_ | refine blk_alloc ?_ _)); exact BK243.out) hb)
                                 have n2_ := Aside0.mk (below_step (by repeat (first | (with_reducible first | exact HB.out | apply below_alloc | apply pw_below_drewN | apply below_drew1 | refine below_set ?_ GE242.out | refine below_set ?_ GE243.out) | exact HB.out)) hb)
                                 have n3_ := Aside0.mk (hbox)
                                 have n4_ := Aside0.mk ((by rw [hg]; exact (below_size (by repeat (first | (with_reducible first | exact HB.out | apply below_alloc | apply pw_below_drewN | apply below_drew1 | refine below_set ?_ GE242.out | refine below_set ?_ GE243.out) | exact HB.out))) : w.heap.size ≤ gb256))
                                 have n5_ := Aside0.mk ((by rw [hg]; exact (below_size (by repeat (first | (with_reducible first | exact HB.out | apply below_alloc | apply pw_below_drewN | apply below_drew1 | refine below_set ?_ GE242.out | refine below_set ?_ GE243.out) | exact HB.out))) : w.heap.size ≤ gb256))
                                 have n6_ := Aside0.mk ((by rw [hg]; exact Nat.ne_of_lt (blk_lt (g := gb242) (o := .cells #[.string a0_0, .int .i64 a0_1, .int .i64 a0_2, .float .f64 a0_3, .bool a0_4, .bool a0_5] 24 (0, 0)) (by (with_reducible repeat (first | refine blk_drewN ?_ _ | refine blk_drew ?_ | refine blk_alloc ?_ _)); exact BK242.out)) : gb242 ≠ gb256))
                                 have n7_ := Aside0.mk ((by rw [hg]; exact Nat.ne_of_gt (blk_lt (g := gb242) (o := .cells #[.string a0_0, .int .i64 a0_1, .int .i64 a0_2, .float .f64 a0_3, .bool a0_4, .bool a0_5] 24 (0, 0)) (by (with_reducible repeat (first | refine blk_drewN ?_ _ | refine blk_drew ?_ | refine blk_alloc ?_ _)); exact BK242.out)) : gb256 ≠ gb242))
                                 have n8_ := Aside0.mk ((by rw [hg]; exact Nat.ne_of_lt (blk_lt (g := gb243) (o := .cells #[.string a1_0, .int .i64 a1_1, .int .i64 a1_2, .float .f64 a1_3, .bool a1_4, .bool a1_5] 24 (0, 0)) (by (with_reducible repeat (first | refine blk_drewN ?_ _ | refine blk_drew ?_ | refine blk_alloc ?_ _)); exact BK243.out)) : gb243 ≠ gb256))
                                 have n9_ := Aside0.mk ((by rw [hg]; exact Nat.ne_of_gt (blk_lt (g := gb243) (o := .cells #[.string a1_0, .int .i64 a1_1, .int .i64 a1_2, .float .f64 a1_3, .bool a1_4, .bool a1_5] 24 (0, 0)) (by (with_reducible repeat (first | refine blk_drewN ?_ _ | refine blk_drew ?_ | refine blk_alloc ?_ _)); exact BK243.out)) : gb256 ≠ gb243))
                                 clear BK242
                                 clear BK243
                                 clear HB
                                 have BK242 := n0_
                                 have BK243 := n1_
                                 have HB := n2_
                                 have BK256 := n3_
                                 have GW256 := n4_
                                 have GE256 := n5_
                                 have NB242_256 := n6_
                                 have NB256_242 := n7_
                                 have NB243_256 := n8_
                                 have NB256_243 := n9_
                                 clear n0_ n1_ n2_ n3_ n4_ n5_ n6_ n7_ n8_ n9_
                                 clear hb hbox hg
                                 refine hK.out _ _ ⟨(blk_cell BK242.out 0).trans rfl, (blk_cell BK242.out 1).trans rfl, (blk_cell BK242.out 2).trans rfl, (blk_cell BK242.out 3).trans rfl, (blk_cell BK242.out 4).trans rfl, (blk_cell BK242.out 5).trans rfl, (blk_cell BK243.out 0).trans rfl, (blk_cell BK243.out 1).trans rfl, (blk_cell BK243.out 2).trans rfl, (blk_cell BK243.out 3).trans rfl, (blk_cell BK243.out 4).trans rfl, (blk_cell BK243.out 5).trans rfl⟩ (fun hHeld => ?_)
                                 clear hK K
                                 refine norm_ (a' := ?_) ?_ ?_
                                 rotate_left
                                 · show Act.put _ (some 9) _ = _
                                   simp only [Act.put, List.setIfInBounds_toArray, List.set_cons_zero, List.set_cons_succ, i64_w, i32_w]
                                   rfl
                                 exact norm_ (by first | (simp only [putAll, Act.put, List.setIfInBounds_toArray, List.set_cons_zero, List.set_cons_succ]; done) | (simp only [putAll, Act.put, List.setIfInBounds_toArray, List.set_cons_zero, List.set_cons_succ]; rfl)) (hJ2_6 (gb256) _ ⟨hHeld, (by (with_reducible repeat (first | refine blk_drewN ?_ _ | refine blk_drew ?_ | refine blk_alloc ?_ _)); exact BK242.out), (by (with_reducible repeat (first | refine blk_drewN ?_ _ | refine blk_drew ?_ | refine blk_alloc ?_ _)); exact BK243.out), (by (with_reducible repeat (first | refine blk_drewN ?_ _ | refine blk_drew ?_ | refine blk_alloc ?_ _)); exact BK256.out), GW256.out, GE256.out, NB242_256.out, NB256_242.out, NB243_256.out, NB256_243.out, (by repeat (first | (with_reducible first | exact HB.out | apply below_alloc | apply pw_below_drewN | apply below_drew1 | refine below_set ?_ GE242.out | refine below_set ?_ GE243.out | refine below_set ?_ GE256.out) | exact HB.out))⟩)
                               · skip
                                 refine box_step ?hg (N := 10) ?hd (cs := #[.string (⟨#[]⟩ : ByteArray), .int .i64 0, .int .i64 0, .float .f64 0, .bool false, .bool false]) (t := 24) ?hr ?_; (case hd => rfl); (case hg => rfl); (case hr => first | (go_simp; done) | (go_simp; rfl))
                                 intro gb257 hg w21 hbox hb
                                 have n0_ := Aside0.mk (blk_below (g := gb242) (o := .cells #[.string a0_0, .int .i64 a0_1, .int .i64 a0_2, .float .f64 a0_3, .bool a0_4, .bool a0_5] 24 (0, 0)) (by (with_reducible repeat (first | refine blk_drewN ?_ _ | refine blk_drew ?_ | refine blk_alloc ?_ _)); exact BK242.out) hb)
                                 have n1_ := Aside0.mk (blk_below (g := gb243) (o := .cells #[.string a1_0, .int .i64 a1_1, .int .i64 a1_2, .float .f64 a1_3, .bool a1_4, .bool a1_5] 24 (0, 0)) (by (with_reducible repeat (first | refine blk_drewN ?_ _ | refine blk_drew ?_ | refine blk_alloc ?_ _)); exact BK243.out) hb)
                                 have n2_ := Aside0.mk (below_step (by repeat (first | (with_reducible first | exact HB.out | apply below_alloc | apply pw_below_drewN | apply below_drew1 | refine below_set ?_ GE242.out | refine below_set ?_ GE243.out) | exact HB.out)) hb)
                                 have n3_ := Aside0.mk (hbox)
                                 have n4_ := Aside0.mk ((by rw [hg]; exact (below_size (by repeat (first | (with_reducible first | exact HB.out | apply below_alloc | apply pw_below_drewN | apply below_drew1 | refine below_set ?_ GE242.out | refine below_set ?_ GE243.out) | exact HB.out))) : w.heap.size ≤ gb257))
                                 have n5_ := Aside0.mk ((by rw [hg]; exact (below_size (by repeat (first | (with_reducible first | exact HB.out | apply below_alloc | apply pw_below_drewN | apply below_drew1 | refine below_set ?_ GE242.out | refine below_set ?_ GE243.out) | exact HB.out))) : w.heap.size ≤ gb257))
                                 have n6_ := Aside0.mk ((by rw [hg]; exact Nat.ne_of_lt (blk_lt (g := gb242) (o := .cells #[.string a0_0, .int .i64 a0_1, .int .i64 a0_2, .float .f64 a0_3, .bool a0_4, .bool a0_5] 24 (0, 0)) (by (with_reducible repeat (first | refine blk_drewN ?_ _ | refine blk_drew ?_ | refine blk_alloc ?_ _)); exact BK242.out)) : gb242 ≠ gb257))
                                 have n7_ := Aside0.mk ((by rw [hg]; exact Nat.ne_of_gt (blk_lt (g := gb242) (o := .cells #[.string a0_0, .int .i64 a0_1, .int .i64 a0_2, .float .f64 a0_3, .bool a0_4, .bool a0_5] 24 (0, 0)) (by (with_reducible repeat (first | refine blk_drewN ?_ _ | refine blk_drew ?_ | refine blk_alloc ?_ _)); exact BK242.out)) : gb257 ≠ gb242))
                                 have n8_ := Aside0.mk ((by rw [hg]; exact Nat.ne_of_lt (blk_lt (g := gb243) (o := .cells #[.string a1_0, .int .i64 a1_1, .int .i64 a1_2, .float .f64 a1_3, .bool a1_4, .bool a1_5] 24 (0, 0)) (by (with_reducible repeat (first | refine blk_drewN ?_ _ | refine blk_drew ?_ | refine blk_alloc ?_ _)); exact BK243.out)) : gb243 ≠ gb257))
                                 have n9_ := Aside0.mk ((by rw [hg]; exact Nat.ne_of_gt (blk_lt (g := gb243) (o := .cells #[.string a1_0, .int .i64 a1_1, .int .i64 a1_2, .float .f64 a1_3, .bool a1_4, .bool a1_5] 24 (0, 0)) (by (with_reducible repeat (first | refine blk_drewN ?_ _ | refine blk_drew ?_ | refine blk_alloc ?_ _)); exact BK243.out)) : gb257 ≠ gb243))
                                 clear BK242
                                 clear BK243
                                 clear HB
                                 have BK242 := n0_
                                 have BK243 := n1_
                                 have HB := n2_
                                 have BK257 := n3_
                                 have GW257 := n4_
                                 have GE257 := n5_
                                 have NB242_257 := n6_
                                 have NB257_242 := n7_
                                 have NB243_257 := n8_
                                 have NB257_243 := n9_
                                 clear n0_ n1_ n2_ n3_ n4_ n5_ n6_ n7_ n8_ n9_
                                 clear hb hbox hg
                                 refine hK.out _ _ ⟨(blk_cell BK242.out 0).trans rfl, (blk_cell BK242.out 1).trans rfl, (blk_cell BK242.out 2).trans rfl, (blk_cell BK242.out 3).trans rfl, (blk_cell BK242.out 4).trans rfl, (blk_cell BK242.out 5).trans rfl, (blk_cell BK243.out 0).trans rfl, (blk_cell BK243.out 1).trans rfl, (blk_cell BK243.out 2).trans rfl, (blk_cell BK243.out 3).trans rfl, (blk_cell BK243.out 4).trans rfl, (blk_cell BK243.out 5).trans rfl⟩ (fun hHeld => ?_)
                                 clear hK K
                                 refine norm_ (a' := ?_) ?_ ?_
                                 rotate_left
                                 · show Act.put _ (some 10) _ = _
                                   simp only [Act.put, List.setIfInBounds_toArray, List.set_cons_zero, List.set_cons_succ, i64_w, i32_w]
                                   rfl
                                 exact norm_ (by first | (simp only [putAll, Act.put, List.setIfInBounds_toArray, List.set_cons_zero, List.set_cons_succ]; done) | (simp only [putAll, Act.put, List.setIfInBounds_toArray, List.set_cons_zero, List.set_cons_succ]; rfl)) (hJ2_7 (gb257) _ ⟨hHeld, (by (with_reducible repeat (first | refine blk_drewN ?_ _ | refine blk_drew ?_ | refine blk_alloc ?_ _)); exact BK242.out), (by (with_reducible repeat (first | refine blk_drewN ?_ _ | refine blk_drew ?_ | refine blk_alloc ?_ _)); exact BK243.out), (by (with_reducible repeat (first | refine blk_drewN ?_ _ | refine blk_drew ?_ | refine blk_alloc ?_ _)); exact BK257.out), GW257.out, GE257.out, NB242_257.out, NB257_242.out, NB243_257.out, NB257_243.out, (by repeat (first | (with_reducible first | exact HB.out | apply below_alloc | apply pw_below_drewN | apply below_drew1 | refine below_set ?_ GE242.out | refine below_set ?_ GE243.out | refine below_set ?_ GE257.out) | exact HB.out))⟩)
                           · skip
                             rintro ⟨gb256, gb257⟩ w21 ⟨hS_, h0_, h1_, h2_, h3_, h4_, h5_, h6_, h7_, h8_, h9_, h10_, h11_, h12_, h13_, h14_, h15_, h16_, h17_, h18_⟩
                             have n0_ : Aside0 (w21.heap[gb242]? = some (.cells #[.string a0_0, .int .i64 a0_1, .int .i64 a0_2, .float .f64 a0_3, .bool a0_4, .bool a0_5] 24 (0, 0))) := ⟨h0_⟩
                             have n1_ : Aside0 (w21.heap[gb243]? = some (.cells #[.string a1_0, .int .i64 a1_1, .int .i64 a1_2, .float .f64 a1_3, .bool a1_4, .bool a1_5] 24 (0, 0))) := ⟨h1_⟩
                             have n2_ : Aside0 (w21.heap[gb256]? = some (.cells #[.string (⟨#[]⟩ : ByteArray), .int .i64 0, .int .i64 0, .float .f64 0, .bool false, .bool false] 24 (0, 0))) := ⟨h2_⟩
                             have n3_ : Aside0 (w21.heap[gb257]? = some (.cells #[.string (⟨#[]⟩ : ByteArray), .int .i64 0, .int .i64 0, .float .f64 0, .bool false, .bool false] 24 (0, 0))) := ⟨h3_⟩
                             have n4_ : Aside0 (w.heap.size ≤ gb256) := ⟨h4_⟩
                             have n5_ : Aside0 (w.heap.size ≤ gb256) := ⟨h5_⟩
                             have n6_ : Aside0 (gb242 ≠ gb256) := ⟨h6_⟩
                             have n7_ : Aside0 (gb256 ≠ gb242) := ⟨h7_⟩
                             have n8_ : Aside0 (gb243 ≠ gb256) := ⟨h8_⟩
                             have n9_ : Aside0 (gb256 ≠ gb243) := ⟨h9_⟩
                             have n10_ : Aside0 (gb257 ≠ gb256) := ⟨h10_⟩
                             have n11_ : Aside0 (gb256 ≠ gb257) := ⟨h11_⟩
                             have n12_ : Aside0 (w.heap.size ≤ gb257) := ⟨h12_⟩
                             have n13_ : Aside0 (w.heap.size ≤ gb257) := ⟨h13_⟩
                             have n14_ : Aside0 (gb242 ≠ gb257) := ⟨h14_⟩
                             have n15_ : Aside0 (gb257 ≠ gb242) := ⟨h15_⟩
                             have n16_ : Aside0 (gb243 ≠ gb257) := ⟨h16_⟩
                             have n17_ : Aside0 (gb257 ≠ gb243) := ⟨h17_⟩
                             have n18_ : Aside0 (Below w.heap.size w w21) := ⟨h18_⟩
                             clear BK242
                             clear BK243
                             clear HB
                             clear h0_ h1_ h2_ h3_ h4_ h5_ h6_ h7_ h8_ h9_ h10_ h11_ h12_ h13_ h14_ h15_ h16_ h17_ h18_
                             have BK242 := n0_
                             have BK243 := n1_
                             have BK256 := n2_
                             have BK257 := n3_
                             have GW256 := n4_
                             have GE256 := n5_
                             have NB242_256 := n6_
                             have NB256_242 := n7_
                             have NB243_256 := n8_
                             have NB256_243 := n9_
                             have NB257_256 := n10_
                             have NB256_257 := n11_
                             have GW257 := n12_
                             have GE257 := n13_
                             have NB242_257 := n14_
                             have NB257_242 := n15_
                             have NB243_257 := n16_
                             have NB257_243 := n17_
                             have HB := n18_
                             clear n0_ n1_ n2_ n3_ n4_ n5_ n6_ n7_ n8_ n9_ n10_ n11_ n12_ n13_ n14_ n15_ n16_ n17_ n18_
                             have hHeld : w21.cell? ⟨gb242, 0, none⟩ = some (.string a0_0) ∧ w21.cell? ⟨gb242, 1, none⟩ = some (.int .i64 a0_1) ∧ w21.cell? ⟨gb242, 2, none⟩ = some (.int .i64 a0_2) ∧ w21.cell? ⟨gb242, 3, none⟩ = some (.float .f64 a0_3) ∧ w21.cell? ⟨gb242, 4, none⟩ = some (.bool a0_4) ∧ w21.cell? ⟨gb242, 5, none⟩ = some (.bool a0_5) ∧ w21.cell? ⟨gb243, 0, none⟩ = some (.string a1_0) ∧ w21.cell? ⟨gb243, 1, none⟩ = some (.int .i64 a1_1) ∧ w21.cell? ⟨gb243, 2, none⟩ = some (.int .i64 a1_2) ∧ w21.cell? ⟨gb243, 3, none⟩ = some (.float .f64 a1_3) ∧ w21.cell? ⟨gb243, 4, none⟩ = some (.bool a1_4) ∧ w21.cell? ⟨gb243, 5, none⟩ = some (.bool a1_5) := hS_
                             refine norm_ (a' := ?_) ?_ ?_
                             rotate_left
                             · simp only [putAll, Act.put, List.setIfInBounds_toArray, List.set_cons_zero, List.set_cons_succ]
                               rfl
                             refine one_ (i := 2) (N := some 13) #[true, true, true, true, true, false, true, true, false, false] rfl rfl (one_of HT_.out (by kernel_rfl)) (by decide) (fun K hK => ?_)
                             refine goes_ Try.func10 (by kernel_rfl) rfl #[.agg #[.string a0_0, .int .i64 a0_1, .int .i64 a0_2, .float .f64 a0_3, .bool a0_4, .bool a0_5], .int .u64 a2] (by rfl) rfl rfl (by (try simp only [List.map_toArray, List.map_cons, List.map_nil]); first | done | rfl | (simp only [List.length_drop, List.length_take]; rfl)) ?_
                             with_reducible refine (turncocklaw16_of.calls a0_0 a0_1 a0_2 a0_3 a0_4 a0_5 a2 t244 t245 t246 t247 t248 t249 _ A5.out).mono ?_
                             rintro e w22 ⟨rfl, hb⟩
                             refine ⟨_, rfl, ?_⟩
                             have n0_ := Aside0.mk (blk_below (g := gb242) (o := .cells #[.string a0_0, .int .i64 a0_1, .int .i64 a0_2, .float .f64 a0_3, .bool a0_4, .bool a0_5] 24 (0, 0)) (by (with_reducible repeat (first | refine blk_drewN ?_ _ | refine blk_drew ?_ | refine blk_alloc ?_ _)); exact BK242.out) hb)
                             have n1_ := Aside0.mk (blk_below (g := gb243) (o := .cells #[.string a1_0, .int .i64 a1_1, .int .i64 a1_2, .float .f64 a1_3, .bool a1_4, .bool a1_5] 24 (0, 0)) (by (with_reducible repeat (first | refine blk_drewN ?_ _ | refine blk_drew ?_ | refine blk_alloc ?_ _)); exact BK243.out) hb)
                             have n2_ := Aside0.mk (blk_below (g := gb256) (o := .cells #[.string (⟨#[]⟩ : ByteArray), .int .i64 0, .int .i64 0, .float .f64 0, .bool false, .bool false] 24 (0, 0)) (by (with_reducible repeat (first | refine blk_drewN ?_ _ | refine blk_drew ?_ | refine blk_alloc ?_ _)); exact BK256.out) hb)
                             have n3_ := Aside0.mk (blk_below (g := gb257) (o := .cells #[.string (⟨#[]⟩ : ByteArray), .int .i64 0, .int .i64 0, .float .f64 0, .bool false, .bool false] 24 (0, 0)) (by (with_reducible repeat (first | refine blk_drewN ?_ _ | refine blk_drew ?_ | refine blk_alloc ?_ _)); exact BK257.out) hb)
                             have n4_ := Aside0.mk (below_step (by repeat (first | (with_reducible first | exact HB.out | apply below_alloc | apply pw_below_drewN | apply below_drew1 | refine below_set ?_ GE242.out | refine below_set ?_ GE243.out | refine below_set ?_ GE256.out | refine below_set ?_ GE257.out) | exact HB.out)) hb)
                             clear BK242
                             clear BK243
                             clear BK256
                             clear BK257
                             clear HB
                             have BK242 := n0_
                             have BK243 := n1_
                             have BK256 := n2_
                             have BK257 := n3_
                             have HB := n4_
                             clear n0_ n1_ n2_ n3_ n4_
                             (try clear hb)
                             (try clear hb2)
                             (try clear hk)
                             (try clear hi)
                             refine hK.out _ _ ⟨(blk_cell BK242.out 0).trans rfl, (blk_cell BK242.out 1).trans rfl, (blk_cell BK242.out 2).trans rfl, (blk_cell BK242.out 3).trans rfl, (blk_cell BK242.out 4).trans rfl, (blk_cell BK242.out 5).trans rfl, (blk_cell BK243.out 0).trans rfl, (blk_cell BK243.out 1).trans rfl, (blk_cell BK243.out 2).trans rfl, (blk_cell BK243.out 3).trans rfl, (blk_cell BK243.out 4).trans rfl, (blk_cell BK243.out 5).trans rfl⟩ (fun hHeld => ?_)
                             clear hK K
                             refine norm_ (a' := ?_) ?_ ?_
                             rotate_left
                             · show Act.put _ (some 13) _ = _
                               simp only [Act.put, List.setIfInBounds_toArray, List.set_cons_zero, List.set_cons_succ, i64_w, i32_w]
                               rfl
                             exact norm_ (by first | (simp only [putAll, Act.put, List.setIfInBounds_toArray, List.set_cons_zero, List.set_cons_succ]; done) | (simp only [putAll, Act.put, List.setIfInBounds_toArray, List.set_cons_zero, List.set_cons_succ]; rfl)) (hJ2_6_7 (gb256, gb257) _ ⟨hHeld, (by (with_reducible repeat (first | refine blk_drewN ?_ _ | refine blk_drew ?_ | refine blk_alloc ?_ _)); exact BK242.out), (by (with_reducible repeat (first | refine blk_drewN ?_ _ | refine blk_drew ?_ | refine blk_alloc ?_ _)); exact BK243.out), (by (with_reducible repeat (first | refine blk_drewN ?_ _ | refine blk_drew ?_ | refine blk_alloc ?_ _)); exact BK256.out), (by (with_reducible repeat (first | refine blk_drewN ?_ _ | refine blk_drew ?_ | refine blk_alloc ?_ _)); exact BK257.out), GW256.out, GE256.out, NB242_256.out, NB256_242.out, NB243_256.out, NB256_243.out, NB257_256.out, NB256_257.out, GW257.out, GE257.out, NB242_257.out, NB257_242.out, NB243_257.out, NB257_243.out, (by repeat (first | (with_reducible first | exact HB.out | apply below_alloc | apply pw_below_drewN | apply below_drew1 | refine below_set ?_ GE242.out | refine below_set ?_ GE243.out | refine below_set ?_ GE256.out | refine below_set ?_ GE257.out) | exact HB.out))⟩)
                         · skip
                           rintro gb257 w21 ⟨hS_, h0_, h1_, h2_, h3_, h4_, h5_, h6_, h7_, h8_, h9_⟩
                           have n0_ : Aside0 (w21.heap[gb242]? = some (.cells #[.string a0_0, .int .i64 a0_1, .int .i64 a0_2, .float .f64 a0_3, .bool a0_4, .bool a0_5] 24 (0, 0))) := ⟨h0_⟩
                           have n1_ : Aside0 (w21.heap[gb243]? = some (.cells #[.string a1_0, .int .i64 a1_1, .int .i64 a1_2, .float .f64 a1_3, .bool a1_4, .bool a1_5] 24 (0, 0))) := ⟨h1_⟩
                           have n2_ : Aside0 (w21.heap[gb257]? = some (.cells #[.string (⟨#[]⟩ : ByteArray), .int .i64 0, .int .i64 0, .float .f64 0, .bool false, .bool false] 24 (0, 0))) := ⟨h2_⟩
                           have n3_ : Aside0 (w.heap.size ≤ gb257) := ⟨h3_⟩
                           have n4_ : Aside0 (w.heap.size ≤ gb257) := ⟨h4_⟩
                           have n5_ : Aside0 (gb242 ≠ gb257) := ⟨h5_⟩
                           have n6_ : Aside0 (gb257 ≠ gb242) := ⟨h6_⟩
                           have n7_ : Aside0 (gb243 ≠ gb257) := ⟨h7_⟩
                           have n8_ : Aside0 (gb257 ≠ gb243) := ⟨h8_⟩
                           have n9_ : Aside0 (Below w.heap.size w w21) := ⟨h9_⟩
                           clear BK242
                           clear BK243
                           clear HB
                           clear h0_ h1_ h2_ h3_ h4_ h5_ h6_ h7_ h8_ h9_
                           have BK242 := n0_
                           have BK243 := n1_
                           have BK257 := n2_
                           have GW257 := n3_
                           have GE257 := n4_
                           have NB242_257 := n5_
                           have NB257_242 := n6_
                           have NB243_257 := n7_
                           have NB257_243 := n8_
                           have HB := n9_
                           clear n0_ n1_ n2_ n3_ n4_ n5_ n6_ n7_ n8_ n9_
                           have hHeld : w21.cell? ⟨gb242, 0, none⟩ = some (.string a0_0) ∧ w21.cell? ⟨gb242, 1, none⟩ = some (.int .i64 a0_1) ∧ w21.cell? ⟨gb242, 2, none⟩ = some (.int .i64 a0_2) ∧ w21.cell? ⟨gb242, 3, none⟩ = some (.float .f64 a0_3) ∧ w21.cell? ⟨gb242, 4, none⟩ = some (.bool a0_4) ∧ w21.cell? ⟨gb242, 5, none⟩ = some (.bool a0_5) ∧ w21.cell? ⟨gb243, 0, none⟩ = some (.string a1_0) ∧ w21.cell? ⟨gb243, 1, none⟩ = some (.int .i64 a1_1) ∧ w21.cell? ⟨gb243, 2, none⟩ = some (.int .i64 a1_2) ∧ w21.cell? ⟨gb243, 3, none⟩ = some (.float .f64 a1_3) ∧ w21.cell? ⟨gb243, 4, none⟩ = some (.bool a1_4) ∧ w21.cell? ⟨gb243, 5, none⟩ = some (.bool a1_5) := hS_
                           refine norm_ (a' := ?_) ?_ ?_
                           rotate_left
                           · simp only [putAll, Act.put, List.setIfInBounds_toArray, List.set_cons_zero, List.set_cons_succ]
                             rfl
                           refine two_ (i := 5) (j := 6) (Ni := some 16) (Nj := some 9) #[true, true, true, true, true, true, false, true, false, false] #[true, true, true, true, true, false, true, true, false, false] rfl rfl rfl rfl (two_of HT_.out (by kernel_rfl)) (by decide) (by decide) (fun K hK => ?_) (fun K hK => ?_)
                           · skip
                             refine goes_ Try.func10 (by kernel_rfl) rfl #[.agg #[.string a1_0, .int .i64 a1_1, .int .i64 a1_2, .float .f64 a1_3, .bool a1_4, .bool a1_5], .int .u64 a3] (by rfl) rfl rfl (by (try simp only [List.map_toArray, List.map_cons, List.map_nil]); first | done | rfl | (simp only [List.length_drop, List.length_take]; rfl)) ?_
                             with_reducible refine (turncocklaw16_of.calls a1_0 a1_1 a1_2 a1_3 a1_4 a1_5 a3 t250 t251 t252 t253 t254 t255 _ A6.out).mono ?_
                             rintro e w22 ⟨rfl, hb⟩
                             refine ⟨_, rfl, ?_⟩
                             have n0_ := Aside0.mk (blk_below (g := gb242) (o := .cells #[.string a0_0, .int .i64 a0_1, .int .i64 a0_2, .float .f64 a0_3, .bool a0_4, .bool a0_5] 24 (0, 0)) (by (with_reducible repeat (first | refine blk_drewN ?_ _ | refine blk_drew ?_ | refine blk_alloc ?_ _)); exact BK242.out) hb)
                             have n1_ := Aside0.mk (blk_below (g := gb243) (o := .cells #[.string a1_0, .int .i64 a1_1, .int .i64 a1_2, .float .f64 a1_3, .bool a1_4, .bool a1_5] 24 (0, 0)) (by (with_reducible repeat (first | refine blk_drewN ?_ _ | refine blk_drew ?_ | refine blk_alloc ?_ _)); exact BK243.out) hb)
                             have n2_ := Aside0.mk (blk_below (g := gb257) (o := .cells #[.string (⟨#[]⟩ : ByteArray), .int .i64 0, .int .i64 0, .float .f64 0, .bool false, .bool false] 24 (0, 0)) (by (with_reducible repeat (first | refine blk_drewN ?_ _ | refine blk_drew ?_ | refine blk_alloc ?_ _)); exact BK257.out) hb)
                             have n3_ := Aside0.mk (below_step (by repeat (first | (with_reducible first | exact HB.out | apply below_alloc | apply pw_below_drewN | apply below_drew1 | refine below_set ?_ GE242.out | refine below_set ?_ GE243.out | refine below_set ?_ GE257.out) | exact HB.out)) hb)
                             clear BK242
                             clear BK243
                             clear BK257
                             clear HB
                             have BK242 := n0_
                             have BK243 := n1_
                             have BK257 := n2_
                             have HB := n3_
                             clear n0_ n1_ n2_ n3_
                             (try clear hb)
                             (try clear hb2)
                             (try clear hk)
                             (try clear hi)
                             refine hK.out _ _ ⟨(blk_cell BK242.out 0).trans rfl, (blk_cell BK242.out 1).trans rfl, (blk_cell BK242.out 2).trans rfl, (blk_cell BK242.out 3).trans rfl, (blk_cell BK242.out 4).trans rfl, (blk_cell BK242.out 5).trans rfl, (blk_cell BK243.out 0).trans rfl, (blk_cell BK243.out 1).trans rfl, (blk_cell BK243.out 2).trans rfl, (blk_cell BK243.out 3).trans rfl, (blk_cell BK243.out 4).trans rfl, (blk_cell BK243.out 5).trans rfl⟩ (fun hHeld => ?_)
                             clear hK K
                             refine norm_ (a' := ?_) ?_ ?_
                             rotate_left
                             · show Act.put _ (some 16) _ = _
                               simp only [Act.put, List.setIfInBounds_toArray, List.set_cons_zero, List.set_cons_succ, i64_w, i32_w]
                               rfl
                             exact norm_ (by first | (simp only [putAll, Act.put, List.setIfInBounds_toArray, List.set_cons_zero, List.set_cons_succ]; done) | (simp only [putAll, Act.put, List.setIfInBounds_toArray, List.set_cons_zero, List.set_cons_succ]; rfl)) (hJ2_5_7 (gb257) _ ⟨hHeld, (by (with_reducible repeat (first | refine blk_drewN ?_ _ | refine blk_drew ?_ | refine blk_alloc ?_ _)); exact BK242.out), (by (with_reducible repeat (first | refine blk_drewN ?_ _ | refine blk_drew ?_ | refine blk_alloc ?_ _)); exact BK243.out), (by (with_reducible repeat (first | refine blk_drewN ?_ _ | refine blk_drew ?_ | refine blk_alloc ?_ _)); exact BK257.out), GW257.out, GE257.out, NB242_257.out, NB257_242.out, NB243_257.out, NB257_243.out, (by repeat (first | (with_reducible first | exact HB.out | apply below_alloc | apply pw_below_drewN | apply below_drew1 | refine below_set ?_ GE242.out | refine below_set ?_ GE243.out | refine below_set ?_ GE257.out) | exact HB.out))⟩)
                           · skip
                             refine box_step ?hg (N := 9) ?hd (cs := #[.string (⟨#[]⟩ : ByteArray), .int .i64 0, .int .i64 0, .float .f64 0, .bool false, .bool false]) (t := 24) ?hr ?_; (case hd => rfl); (case hg => rfl); (case hr => first | (go_simp; done) | (go_simp; rfl))
                             intro gb256 hg w22 hbox hb
                             have n0_ := Aside0.mk (blk_below (g := gb242) (o := .cells #[.string a0_0, .int .i64 a0_1, .int .i64 a0_2, .float .f64 a0_3, .bool a0_4, .bool a0_5] 24 (0, 0)) (by (with_reducible repeat (first | refine blk_drewN ?_ _ | refine blk_drew ?_ | refine blk_alloc ?_ _)); exact BK242.out) hb)
                             have n1_ := Aside0.mk (blk_below (g := gb243) (o := .cells #[.string a1_0, .int .i64 a1_1, .int .i64 a1_2, .float .f64 a1_3, .bool a1_4, .bool a1_5] 24 (0, 0)) (by (with_reducible repeat (first | refine blk_drewN ?_ _ | refine blk_drew ?_ | refine blk_alloc ?_ _)); exact BK243.out) hb)
                             have n2_ := Aside0.mk (blk_below (g := gb257) (o := .cells #[.string (⟨#[]⟩ : ByteArray), .int .i64 0, .int .i64 0, .float .f64 0, .bool false, .bool false] 24 (0, 0)) (by (with_reducible repeat (first | refine blk_drewN ?_ _ | refine blk_drew ?_ | refine blk_alloc ?_ _)); exact BK257.out) hb)
                             have n3_ := Aside0.mk (below_step (by repeat (first | (with_reducible first | exact HB.out | apply below_alloc | apply pw_below_drewN | apply below_drew1 | refine below_set ?_ GE242.out | refine below_set ?_ GE243.out | refine below_set ?_ GE257.out) | exact HB.out)) hb)
                             have n4_ := Aside0.mk (hbox)
                             have n5_ := Aside0.mk ((by rw [hg]; exact (below_size (by repeat (first | (with_reducible first | exact HB.out | apply below_alloc | apply pw_below_drewN | apply below_drew1 | refine below_set ?_ GE242.out | refine below_set ?_ GE243.out | refine below_set ?_ GE257.out) | exact HB.out))) : w.heap.size ≤ gb256))
                             have n6_ := Aside0.mk ((by rw [hg]; exact (below_size (by repeat (first | (with_reducible first | exact HB.out | apply below_alloc | apply pw_below_drewN | apply below_drew1 | refine below_set ?_ GE242.out | refine below_set ?_ GE243.out | refine below_set ?_ GE257.out) | exact HB.out))) : w.heap.size ≤ gb256))
                             have n7_ := Aside0.mk ((by rw [hg]; exact Nat.ne_of_lt (blk_lt (g := gb242) (o := .cells #[.string a0_0, .int .i64 a0_1, .int .i64 a0_2, .float .f64 a0_3, .bool a0_4, .bool a0_5] 24 (0, 0)) (by (with_reducible repeat (first | refine blk_drewN ?_ _ | refine blk_drew ?_ | refine blk_alloc ?_ _)); exact BK242.out)) : gb242 ≠ gb256))
                             have n8_ := Aside0.mk ((by rw [hg]; exact Nat.ne_of_gt (blk_lt (g := gb242) (o := .cells #[.string a0_0, .int .i64 a0_1, .int .i64 a0_2, .float .f64 a0_3, .bool a0_4, .bool a0_5] 24 (0, 0)) (by (with_reducible repeat (first | refine blk_drewN ?_ _ | refine blk_drew ?_ | refine blk_alloc ?_ _)); exact BK242.out)) : gb256 ≠ gb242))
                             have n9_ := Aside0.mk ((by rw [hg]; exact Nat.ne_of_lt (blk_lt (g := gb243) (o := .cells #[.string a1_0, .int .i64 a1_1, .int .i64 a1_2, .float .f64 a1_3, .bool a1_4, .bool a1_5] 24 (0, 0)) (by (with_reducible repeat (first | refine blk_drewN ?_ _ | refine blk_drew ?_ | refine blk_alloc ?_ _)); exact BK243.out)) : gb243 ≠ gb256))
                             have n10_ := Aside0.mk ((by rw [hg]; exact Nat.ne_of_gt (blk_lt (g := gb243) (o := .cells #[.string a1_0, .int .i64 a1_1, .int .i64 a1_2, .float .f64 a1_3, .bool a1_4, .bool a1_5] 24 (0, 0)) (by (with_reducible repeat (first | refine blk_drewN ?_ _ | refine blk_drew ?_ | refine blk_alloc ?_ _)); exact BK243.out)) : gb256 ≠ gb243))
                             have n11_ := Aside0.mk ((by rw [hg]; exact Nat.ne_of_lt (blk_lt (g := gb257) (o := .cells #[.string (⟨#[]⟩ : ByteArray), .int .i64 0, .int .i64 0, .float .f64 0, .bool false, .bool false] 24 (0, 0)) (by (with_reducible repeat (first | refine blk_drewN ?_ _ | refine blk_drew ?_ | refine blk_alloc ?_ _)); exact BK257.out)) : gb257 ≠ gb256))
                             have n12_ := Aside0.mk ((by rw [hg]; exact Nat.ne_of_gt (blk_lt (g := gb257) (o := .cells #[.string (⟨#[]⟩ : ByteArray), .int .i64 0, .int .i64 0, .float .f64 0, .bool false, .bool false] 24 (0, 0)) (by (with_reducible repeat (first | refine blk_drewN ?_ _ | refine blk_drew ?_ | refine blk_alloc ?_ _)); exact BK257.out)) : gb256 ≠ gb257))
                             clear BK242
                             clear BK243
                             clear BK257
                             clear HB
                             have BK242 := n0_
                             have BK243 := n1_
                             have BK257 := n2_
                             have HB := n3_
                             have BK256 := n4_
                             have GW256 := n5_
                             have GE256 := n6_
                             have NB242_256 := n7_
                             have NB256_242 := n8_
                             have NB243_256 := n9_
                             have NB256_243 := n10_
                             have NB257_256 := n11_
                             have NB256_257 := n12_
                             clear n0_ n1_ n2_ n3_ n4_ n5_ n6_ n7_ n8_ n9_ n10_ n11_ n12_
                             clear hb hbox hg
                             refine hK.out _ _ ⟨(blk_cell BK242.out 0).trans rfl, (blk_cell BK242.out 1).trans rfl, (blk_cell BK242.out 2).trans rfl, (blk_cell BK242.out 3).trans rfl, (blk_cell BK242.out 4).trans rfl, (blk_cell BK242.out 5).trans rfl, (blk_cell BK243.out 0).trans rfl, (blk_cell BK243.out 1).trans rfl, (blk_cell BK243.out 2).trans rfl, (blk_cell BK243.out 3).trans rfl, (blk_cell BK243.out 4).trans rfl, (blk_cell BK243.out 5).trans rfl⟩ (fun hHeld => ?_)
                             clear hK K
                             refine norm_ (a' := ?_) ?_ ?_
                             rotate_left
                             · show Act.put _ (some 9) _ = _
                               simp only [Act.put, List.setIfInBounds_toArray, List.set_cons_zero, List.set_cons_succ, i64_w, i32_w]
                               rfl
                             exact norm_ (by first | (simp only [putAll, Act.put, List.setIfInBounds_toArray, List.set_cons_zero, List.set_cons_succ]; done) | (simp only [putAll, Act.put, List.setIfInBounds_toArray, List.set_cons_zero, List.set_cons_succ]; rfl)) (hJ2_6_7 (gb256, gb257) _ ⟨hHeld, (by (with_reducible repeat (first | refine blk_drewN ?_ _ | refine blk_drew ?_ | refine blk_alloc ?_ _)); exact BK242.out), (by (with_reducible repeat (first | refine blk_drewN ?_ _ | refine blk_drew ?_ | refine blk_alloc ?_ _)); exact BK243.out), (by (with_reducible repeat (first | refine blk_drewN ?_ _ | refine blk_drew ?_ | refine blk_alloc ?_ _)); exact BK256.out), (by (with_reducible repeat (first | refine blk_drewN ?_ _ | refine blk_drew ?_ | refine blk_alloc ?_ _)); exact BK257.out), GW256.out, GE256.out, NB242_256.out, NB256_242.out, NB243_256.out, NB256_243.out, NB257_256.out, NB256_257.out, GW257.out, GE257.out, NB242_257.out, NB257_242.out, NB243_257.out, NB257_243.out, (by repeat (first | (with_reducible first | exact HB.out | apply below_alloc | apply pw_below_drewN | apply below_drew1 | refine below_set ?_ GE242.out | refine below_set ?_ GE243.out | refine below_set ?_ GE257.out | refine below_set ?_ GE256.out) | exact HB.out))⟩)
                       · skip
                         rintro gb256 w21 ⟨hS_, h0_, h1_, h2_, h3_, h4_, h5_, h6_, h7_, h8_, h9_⟩
                         have n0_ : Aside0 (w21.heap[gb242]? = some (.cells #[.string a0_0, .int .i64 a0_1, .int .i64 a0_2, .float .f64 a0_3, .bool a0_4, .bool a0_5] 24 (0, 0))) := ⟨h0_⟩
                         have n1_ : Aside0 (w21.heap[gb243]? = some (.cells #[.string a1_0, .int .i64 a1_1, .int .i64 a1_2, .float .f64 a1_3, .bool a1_4, .bool a1_5] 24 (0, 0))) := ⟨h1_⟩
                         have n2_ : Aside0 (w21.heap[gb256]? = some (.cells #[.string (⟨#[]⟩ : ByteArray), .int .i64 0, .int .i64 0, .float .f64 0, .bool false, .bool false] 24 (0, 0))) := ⟨h2_⟩
                         have n3_ : Aside0 (w.heap.size ≤ gb256) := ⟨h3_⟩
                         have n4_ : Aside0 (w.heap.size ≤ gb256) := ⟨h4_⟩
                         have n5_ : Aside0 (gb242 ≠ gb256) := ⟨h5_⟩
                         have n6_ : Aside0 (gb256 ≠ gb242) := ⟨h6_⟩
                         have n7_ : Aside0 (gb243 ≠ gb256) := ⟨h7_⟩
                         have n8_ : Aside0 (gb256 ≠ gb243) := ⟨h8_⟩
                         have n9_ : Aside0 (Below w.heap.size w w21) := ⟨h9_⟩
                         clear BK242
                         clear BK243
                         clear HB
                         clear h0_ h1_ h2_ h3_ h4_ h5_ h6_ h7_ h8_ h9_
                         have BK242 := n0_
                         have BK243 := n1_
                         have BK256 := n2_
                         have GW256 := n3_
                         have GE256 := n4_
                         have NB242_256 := n5_
                         have NB256_242 := n6_
                         have NB243_256 := n7_
                         have NB256_243 := n8_
                         have HB := n9_
                         clear n0_ n1_ n2_ n3_ n4_ n5_ n6_ n7_ n8_ n9_
                         have hHeld : w21.cell? ⟨gb242, 0, none⟩ = some (.string a0_0) ∧ w21.cell? ⟨gb242, 1, none⟩ = some (.int .i64 a0_1) ∧ w21.cell? ⟨gb242, 2, none⟩ = some (.int .i64 a0_2) ∧ w21.cell? ⟨gb242, 3, none⟩ = some (.float .f64 a0_3) ∧ w21.cell? ⟨gb242, 4, none⟩ = some (.bool a0_4) ∧ w21.cell? ⟨gb242, 5, none⟩ = some (.bool a0_5) ∧ w21.cell? ⟨gb243, 0, none⟩ = some (.string a1_0) ∧ w21.cell? ⟨gb243, 1, none⟩ = some (.int .i64 a1_1) ∧ w21.cell? ⟨gb243, 2, none⟩ = some (.int .i64 a1_2) ∧ w21.cell? ⟨gb243, 3, none⟩ = some (.float .f64 a1_3) ∧ w21.cell? ⟨gb243, 4, none⟩ = some (.bool a1_4) ∧ w21.cell? ⟨gb243, 5, none⟩ = some (.bool a1_5) := hS_
                         refine norm_ (a' := ?_) ?_ ?_
                         rotate_left
                         · simp only [putAll, Act.put, List.setIfInBounds_toArray, List.set_cons_zero, List.set_cons_succ]
                           rfl
                         refine two_ (i := 5) (j := 7) (Ni := some 16) (Nj := some 10) #[true, true, true, true, true, true, true, false, false, false] #[true, true, true, true, true, false, true, true, false, false] rfl rfl rfl rfl (two_of HT_.out (by kernel_rfl)) (by decide) (by decide) (fun K hK => ?_) (fun K hK => ?_)
                         · skip
                           refine goes_ Try.func10 (by kernel_rfl) rfl #[.agg #[.string a1_0, .int .i64 a1_1, .int .i64 a1_2, .float .f64 a1_3, .bool a1_4, .bool a1_5], .int .u64 a3] (by rfl) rfl rfl (by (try simp only [List.map_toArray, List.map_cons, List.map_nil]); first | done | rfl | (simp only [List.length_drop, List.length_take]; rfl)) ?_
                           with_reducible refine (turncocklaw16_of.calls a1_0 a1_1 a1_2 a1_3 a1_4 a1_5 a3 t250 t251 t252 t253 t254 t255 _ A6.out).mono ?_
                           rintro e w22 ⟨rfl, hb⟩
                           refine ⟨_, rfl, ?_⟩
                           have n0_ := Aside0.mk (blk_below (g := gb242) (o := .cells #[.string a0_0, .int .i64 a0_1, .int .i64 a0_2, .float .f64 a0_3, .bool a0_4, .bool a0_5] 24 (0, 0)) (by (with_reducible repeat (first | refine blk_drewN ?_ _ | refine blk_drew ?_ | refine blk_alloc ?_ _)); exact BK242.out) hb)
                           have n1_ := Aside0.mk (blk_below (g := gb243) (o := .cells #[.string a1_0, .int .i64 a1_1, .int .i64 a1_2, .float .f64 a1_3, .bool a1_4, .bool a1_5] 24 (0, 0)) (by (with_reducible repeat (first | refine blk_drewN ?_ _ | refine blk_drew ?_ | refine blk_alloc ?_ _)); exact BK243.out) hb)
                           have n2_ := Aside0.mk (blk_below (g := gb256) (o := .cells #[.string (⟨#[]⟩ : ByteArray), .int .i64 0, .int .i64 0, .float .f64 0, .bool false, .bool false] 24 (0, 0)) (by (with_reducible repeat (first | refine blk_drewN ?_ _ | refine blk_drew ?_ | refine blk_alloc ?_ _)); exact BK256.out) hb)
                           have n3_ := Aside0.mk (below_step (by repeat (first | (with_reducible first | exact HB.out | apply below_alloc | apply pw_below_drewN | apply below_drew1 | refine below_set ?_ GE242.out | refine below_set ?_ GE243.out | refine below_set ?_ GE256.out) | exact HB.out)) hb)
                           clear BK242
                           clear BK243
                           clear BK256
                           clear HB
                           have BK242 := n0_
                           have BK243 := n1_
                           have BK256 := n2_
                           have HB := n3_
                           clear n0_ n1_ n2_ n3_
                           (try clear hb)
                           (try clear hb2)
                           (try clear hk)
                           (try clear hi)
                           refine hK.out _ _ ⟨(blk_cell BK242.out 0).trans rfl, (blk_cell BK242.out 1).trans rfl, (blk_cell BK242.out 2).trans rfl, (blk_cell BK242.out 3).trans rfl, (blk_cell BK242.out 4).trans rfl, (blk_cell BK242.out 5).trans rfl, (blk_cell BK243.out 0).trans rfl, (blk_cell BK243.out 1).trans rfl, (blk_cell BK243.out 2).trans rfl, (blk_cell BK243.out 3).trans rfl, (blk_cell BK243.out 4).trans rfl, (blk_cell BK243.out 5).trans rfl⟩ (fun hHeld => ?_)
                           clear hK K
                           refine norm_ (a' := ?_) ?_ ?_
                           rotate_left
                           · show Act.put _ (some 16) _ = _
                             simp only [Act.put, List.setIfInBounds_toArray, List.set_cons_zero, List.set_cons_succ, i64_w, i32_w]
                             rfl
                           exact norm_ (by first | (simp only [putAll, Act.put, List.setIfInBounds_toArray, List.set_cons_zero, List.set_cons_succ]; done) | (simp only [putAll, Act.put, List.setIfInBounds_toArray, List.set_cons_zero, List.set_cons_succ]; rfl)) (hJ2_5_6 (gb256) _ ⟨hHeld, (by (with_reducible repeat (first | refine blk_drewN ?_ _ | refine blk_drew ?_ | refine blk_alloc ?_ _)); exact BK242.out), (by (with_reducible repeat (first | refine blk_drewN ?_ _ | refine blk_drew ?_ | refine blk_alloc ?_ _)); exact BK243.out), (by (with_reducible repeat (first | refine blk_drewN ?_ _ | refine blk_drew ?_ | refine blk_alloc ?_ _)); exact BK256.out), GW256.out, GE256.out, NB242_256.out, NB256_242.out, NB243_256.out, NB256_243.out, (by repeat (first | (with_reducible first | exact HB.out | apply below_alloc | apply pw_below_drewN | apply below_drew1 | refine below_set ?_ GE242.out | refine below_set ?_ GE243.out | refine below_set ?_ GE256.out) | exact HB.out))⟩)
                         · skip
                           refine box_step ?hg (N := 10) ?hd (cs := #[.string (⟨#[]⟩ : ByteArray), .int .i64 0, .int .i64 0, .float .f64 0, .bool false, .bool false]) (t := 24) ?hr ?_; (case hd => rfl); (case hg => rfl); (case hr => first | (go_simp; done) | (go_simp; rfl))
                           intro gb257 hg w22 hbox hb
                           have n0_ := Aside0.mk (blk_below (g := gb242) (o := .cells #[.string a0_0, .int .i64 a0_1, .int .i64 a0_2, .float .f64 a0_3, .bool a0_4, .bool a0_5] 24 (0, 0)) (by (with_reducible repeat (first | refine blk_drewN ?_ _ | refine blk_drew ?_ | refine blk_alloc ?_ _)); exact BK242.out) hb)
                           have n1_ := Aside0.mk (blk_below (g := gb243) (o := .cells #[.string a1_0, .int .i64 a1_1, .int .i64 a1_2, .float .f64 a1_3, .bool a1_4, .bool a1_5] 24 (0, 0)) (by (with_reducible repeat (first | refine blk_drewN ?_ _ | refine blk_drew ?_ | refine blk_alloc ?_ _)); exact BK243.out) hb)
                           have n2_ := Aside0.mk (blk_below (g := gb256) (o := .cells #[.string (⟨#[]⟩ : ByteArray), .int .i64 0, .int .i64 0, .float .f64 0, .bool false, .bool false] 24 (0, 0)) (by (with_reducible repeat (first | refine blk_drewN ?_ _ | refine blk_drew ?_ | refine blk_alloc ?_ _)); exact BK256.out) hb)
                           have n3_ := Aside0.mk (below_step (by repeat (first | (with_reducible first | exact HB.out | apply below_alloc | apply pw_below_drewN | apply below_drew1 | refine below_set ?_ GE242.out | refine below_set ?_ GE243.out | refine below_set ?_ GE256.out) | exact HB.out)) hb)
                           have n4_ := Aside0.mk (hbox)
                           have n5_ := Aside0.mk ((by rw [hg]; exact (below_size (by repeat (first | (with_reducible first | exact HB.out | apply below_alloc | apply pw_below_drewN | apply below_drew1 | refine below_set ?_ GE242.out | refine below_set ?_ GE243.out | refine below_set ?_ GE256.out) | exact HB.out))) : w.heap.size ≤ gb257))
                           have n6_ := Aside0.mk ((by rw [hg]; exact (below_size (by repeat (first | (with_reducible first | exact HB.out | apply below_alloc | apply pw_below_drewN | apply below_drew1 | refine below_set ?_ GE242.out | refine below_set ?_ GE243.out | refine below_set ?_ GE256.out) | exact HB.out))) : w.heap.size ≤ gb257))
                           have n7_ := Aside0.mk ((by rw [hg]; exact Nat.ne_of_lt (blk_lt (g := gb242) (o := .cells #[.string a0_0, .int .i64 a0_1, .int .i64 a0_2, .float .f64 a0_3, .bool a0_4, .bool a0_5] 24 (0, 0)) (by (with_reducible repeat (first | refine blk_drewN ?_ _ | refine blk_drew ?_ | refine blk_alloc ?_ _)); exact BK242.out)) : gb242 ≠ gb257))
                           have n8_ := Aside0.mk ((by rw [hg]; exact Nat.ne_of_gt (blk_lt (g := gb242) (o := .cells #[.string a0_0, .int .i64 a0_1, .int .i64 a0_2, .float .f64 a0_3, .bool a0_4, .bool a0_5] 24 (0, 0)) (by (with_reducible repeat (first | refine blk_drewN ?_ _ | refine blk_drew ?_ | refine blk_alloc ?_ _)); exact BK242.out)) : gb257 ≠ gb242))
                           have n9_ := Aside0.mk ((by rw [hg]; exact Nat.ne_of_lt (blk_lt (g := gb243) (o := .cells #[.string a1_0, .int .i64 a1_1, .int .i64 a1_2, .float .f64 a1_3, .bool a1_4, .bool a1_5] 24 (0, 0)) (by (with_reducible repeat (first | refine blk_drewN ?_ _ | refine blk_drew ?_ | refine blk_alloc ?_ _)); exact BK243.out)) : gb243 ≠ gb257))
                           have n10_ := Aside0.mk ((by rw [hg]; exact Nat.ne_of_gt (blk_lt (g := gb243) (o := .cells #[.string a1_0, .int .i64 a1_1, .int .i64 a1_2, .float .f64 a1_3, .bool a1_4, .bool a1_5] 24 (0, 0)) (by (with_reducible repeat (first | refine blk_drewN ?_ _ | refine blk_drew ?_ | refine blk_alloc ?_ _)); exact BK243.out)) : gb257 ≠ gb243))
                           have n11_ := Aside0.mk ((by rw [hg]; exact Nat.ne_of_lt (blk_lt (g := gb256) (o := .cells #[.string (⟨#[]⟩ : ByteArray), .int .i64 0, .int .i64 0, .float .f64 0, .bool false, .bool false] 24 (0, 0)) (by (with_reducible repeat (first | refine blk_drewN ?_ _ | refine blk_drew ?_ | refine blk_alloc ?_ _)); exact BK256.out)) : gb256 ≠ gb257))
                           have n12_ := Aside0.mk ((by rw [hg]; exact Nat.ne_of_gt (blk_lt (g := gb256) (o := .cells #[.string (⟨#[]⟩ : ByteArray), .int .i64 0, .int .i64 0, .float .f64 0, .bool false, .bool false] 24 (0, 0)) (by (with_reducible repeat (first | refine blk_drewN ?_ _ | refine blk_drew ?_ | refine blk_alloc ?_ _)); exact BK256.out)) : gb257 ≠ gb256))
                           clear BK242
                           clear BK243
                           clear BK256
                           clear HB
                           have BK242 := n0_
                           have BK243 := n1_
                           have BK256 := n2_
                           have HB := n3_
                           have BK257 := n4_
                           have GW257 := n5_
                           have GE257 := n6_
                           have NB242_257 := n7_
                           have NB257_242 := n8_
                           have NB243_257 := n9_
                           have NB257_243 := n10_
                           have NB256_257 := n11_
                           have NB257_256 := n12_
                           clear n0_ n1_ n2_ n3_ n4_ n5_ n6_ n7_ n8_ n9_ n10_ n11_ n12_
                           clear hb hbox hg
                           refine hK.out _ _ ⟨(blk_cell BK242.out 0).trans rfl, (blk_cell BK242.out 1).trans rfl, (blk_cell BK242.out 2).trans rfl, (blk_cell BK242.out 3).trans rfl, (blk_cell BK242.out 4).trans rfl, (blk_cell BK242.out 5).trans rfl, (blk_cell BK243.out 0).trans rfl, (blk_cell BK243.out 1).trans rfl, (blk_cell BK243.out 2).trans rfl, (blk_cell BK243.out 3).trans rfl, (blk_cell BK243.out 4).trans rfl, (blk_cell BK243.out 5).trans rfl⟩ (fun hHeld => ?_)
                           clear hK K
                           refine norm_ (a' := ?_) ?_ ?_
                           rotate_left
                           · show Act.put _ (some 10) _ = _
                             simp only [Act.put, List.setIfInBounds_toArray, List.set_cons_zero, List.set_cons_succ, i64_w, i32_w]
                             rfl
                           exact norm_ (by first | (simp only [putAll, Act.put, List.setIfInBounds_toArray, List.set_cons_zero, List.set_cons_succ]; done) | (simp only [putAll, Act.put, List.setIfInBounds_toArray, List.set_cons_zero, List.set_cons_succ]; rfl)) (hJ2_6_7 (gb256, gb257) _ ⟨hHeld, (by (with_reducible repeat (first | refine blk_drewN ?_ _ | refine blk_drew ?_ | refine blk_alloc ?_ _)); exact BK242.out), (by (with_reducible repeat (first | refine blk_drewN ?_ _ | refine blk_drew ?_ | refine blk_alloc ?_ _)); exact BK243.out), (by (with_reducible repeat (first | refine blk_drewN ?_ _ | refine blk_drew ?_ | refine blk_alloc ?_ _)); exact BK256.out), (by (with_reducible repeat (first | refine blk_drewN ?_ _ | refine blk_drew ?_ | refine blk_alloc ?_ _)); exact BK257.out), GW256.out, GE256.out, NB242_256.out, NB256_242.out, NB243_256.out, NB256_243.out, NB257_256.out, NB256_257.out, GW257.out, GE257.out, NB242_257.out, NB257_242.out, NB243_257.out, NB257_243.out, (by repeat (first | (with_reducible first | exact HB.out | apply below_alloc | apply pw_below_drewN | apply below_drew1 | refine below_set ?_ GE242.out | refine below_set ?_ GE243.out | refine below_set ?_ GE256.out | refine below_set ?_ GE257.out) | exact HB.out))⟩)
                     · skip
                       rintro _ w21 ⟨hS_, h0_, h1_, h2_⟩
                       have n0_ : Aside0 (w21.heap[gb242]? = some (.cells #[.string a0_0, .int .i64 a0_1, .int .i64 a0_2, .float .f64 a0_3, .bool a0_4, .bool a0_5] 24 (0, 0))) := ⟨h0_⟩
                       have n1_ : Aside0 (w21.heap[gb243]? = some (.cells #[.string a1_0, .int .i64 a1_1, .int .i64 a1_2, .float .f64 a1_3, .bool a1_4, .bool a1_5] 24 (0, 0))) := ⟨h1_⟩
                       have n2_ : Aside0 (Below w.heap.size w w21) := ⟨h2_⟩
                       clear BK242
                       clear BK243
                       clear HB
                       clear h0_ h1_ h2_
                       have BK242 := n0_
                       have BK243 := n1_
                       have HB := n2_
                       clear n0_ n1_ n2_
                       have hHeld : w21.cell? ⟨gb242, 0, none⟩ = some (.string a0_0) ∧ w21.cell? ⟨gb242, 1, none⟩ = some (.int .i64 a0_1) ∧ w21.cell? ⟨gb242, 2, none⟩ = some (.int .i64 a0_2) ∧ w21.cell? ⟨gb242, 3, none⟩ = some (.float .f64 a0_3) ∧ w21.cell? ⟨gb242, 4, none⟩ = some (.bool a0_4) ∧ w21.cell? ⟨gb242, 5, none⟩ = some (.bool a0_5) ∧ w21.cell? ⟨gb243, 0, none⟩ = some (.string a1_0) ∧ w21.cell? ⟨gb243, 1, none⟩ = some (.int .i64 a1_1) ∧ w21.cell? ⟨gb243, 2, none⟩ = some (.int .i64 a1_2) ∧ w21.cell? ⟨gb243, 3, none⟩ = some (.float .f64 a1_3) ∧ w21.cell? ⟨gb243, 4, none⟩ = some (.bool a1_4) ∧ w21.cell? ⟨gb243, 5, none⟩ = some (.bool a1_5) := hS_
                       refine norm_ (a' := ?_) ?_ ?_
                       rotate_left
                       · simp only [putAll, Act.put, List.setIfInBounds_toArray, List.set_cons_zero, List.set_cons_succ]
                         rfl
                       refine two_ (i := 6) (j := 7) (Ni := some 9) (Nj := some 10) #[true, true, true, true, true, true, true, false, false, false] #[true, true, true, true, true, true, false, true, false, false] rfl rfl rfl rfl (two_of HT_.out (by kernel_rfl)) (by decide) (by decide) (fun K hK => ?_) (fun K hK => ?_)
                       · skip
                         refine box_step ?hg (N := 9) ?hd (cs := #[.string (⟨#[]⟩ : ByteArray), .int .i64 0, .int .i64 0, .float .f64 0, .bool false, .bool false]) (t := 24) ?hr ?_; (case hd => rfl); (case hg => rfl); (case hr => first | (go_simp; done) | (go_simp; rfl))
                         intro gb256 hg w22 hbox hb
                         have n0_ := Aside0.mk (blk_below (g := gb242) (o := .cells #[.string a0_0, .int .i64 a0_1, .int .i64 a0_2, .float .f64 a0_3, .bool a0_4, .bool a0_5] 24 (0, 0)) (by (with_reducible repeat (first | refine blk_drewN ?_ _ | refine blk_drew ?_ | refine blk_alloc ?_ _)); exact BK242.out) hb)
                         have n1_ := Aside0.mk (blk_below (g := gb243) (o := .cells #[.string a1_0, .int .i64 a1_1, .int .i64 a1_2, .float .f64 a1_3, .bool a1_4, .bool a1_5] 24 (0, 0)) (by (with_reducible repeat (first | refine blk_drewN ?_ _ | refine blk_drew ?_ | refine blk_alloc ?_ _)); exact BK243.out) hb)
                         have n2_ := Aside0.mk (below_step (by repeat (first | (with_reducible first | exact HB.out | apply below_alloc | apply pw_below_drewN | apply below_drew1 | refine below_set ?_ GE242.out | refine below_set ?_ GE243.out) | exact HB.out)) hb)
                         have n3_ := Aside0.mk (hbox)
                         have n4_ := Aside0.mk ((by rw [hg]; exact (below_size (by repeat (first | (with_reducible first | exact HB.out | apply below_alloc | apply pw_below_drewN | apply below_drew1 | refine below_set ?_ GE242.out | refine below_set ?_ GE243.out) | exact HB.out))) : w.heap.size ≤ gb256))
                         have n5_ := Aside0.mk ((by rw [hg]; exact (below_size (by repeat (first | (with_reducible first | exact HB.out | apply below_alloc | apply pw_below_drewN | apply below_drew1 | refine below_set ?_ GE242.out | refine below_set ?_ GE243.out) | exact HB.out))) : w.heap.size ≤ gb256))
                         have n6_ := Aside0.mk ((by rw [hg]; exact Nat.ne_of_lt (blk_lt (g := gb242) (o := .cells #[.string a0_0, .int .i64 a0_1, .int .i64 a0_2, .float .f64 a0_3, .bool a0_4, .bool a0_5] 24 (0, 0)) (by (with_reducible repeat (first | refine blk_drewN ?_ _ | refine blk_drew ?_ | refine blk_alloc ?_ _)); exact BK242.out)) : gb242 ≠ gb256))
                         have n7_ := Aside0.mk ((by rw [hg]; exact Nat.ne_of_gt (blk_lt (g := gb242) (o := .cells #[.string a0_0, .int .i64 a0_1, .int .i64 a0_2, .float .f64 a0_3, .bool a0_4, .bool a0_5] 24 (0, 0)) (by (with_reducible repeat (first | refine blk_drewN ?_ _ | refine blk_drew ?_ | refine blk_alloc ?_ _)); exact BK242.out)) : gb256 ≠ gb242))
                         have n8_ := Aside0.mk ((by rw [hg]; exact Nat.ne_of_lt (blk_lt (g := gb243) (o := .cells #[.string a1_0, .int .i64 a1_1, .int .i64 a1_2, .float .f64 a1_3, .bool a1_4, .bool a1_5] 24 (0, 0)) (by (with_reducible repeat (first | refine blk_drewN ?_ _ | refine blk_drew ?_ | refine blk_alloc ?_ _)); exact BK243.out)) : gb243 ≠ gb256))
                         have n9_ := Aside0.mk ((by rw [hg]; exact Nat.ne_of_gt (blk_lt (g := gb243) (o := .cells #[.string a1_0, .int .i64 a1_1, .int .i64 a1_2, .float .f64 a1_3, .bool a1_4, .bool a1_5] 24 (0, 0)) (by (with_reducible repeat (first | refine blk_drewN ?_ _ | refine blk_drew ?_ | refine blk_alloc ?_ _)); exact BK243.out)) : gb256 ≠ gb243))
                         clear BK242
                         clear BK243
                         clear HB
                         have BK242 := n0_
                         have BK243 := n1_
                         have HB := n2_
                         have BK256 := n3_
                         have GW256 := n4_
                         have GE256 := n5_
                         have NB242_256 := n6_
                         have NB256_242 := n7_
                         have NB243_256 := n8_
                         have NB256_243 := n9_
                         clear n0_ n1_ n2_ n3_ n4_ n5_ n6_ n7_ n8_ n9_
                         clear hb hbox hg
                         refine hK.out _ _ ⟨(blk_cell BK242.out 0).trans rfl, (blk_cell BK242.out 1).trans rfl, (blk_cell BK242.out 2).trans rfl, (blk_cell BK242.out 3).trans rfl, (blk_cell BK242.out 4).trans rfl, (blk_cell BK242.out 5).trans rfl, (blk_cell BK243.out 0).trans rfl, (blk_cell BK243.out 1).trans rfl, (blk_cell BK243.out 2).trans rfl, (blk_cell BK243.out 3).trans rfl, (blk_cell BK243.out 4).trans rfl, (blk_cell BK243.out 5).trans rfl⟩ (fun hHeld => ?_)
                         clear hK K
                         refine norm_ (a' := ?_) ?_ ?_
                         rotate_left
                         · show Act.put _ (some 9) _ = _
                           simp only [Act.put, List.setIfInBounds_toArray, List.set_cons_zero, List.set_cons_succ, i64_w, i32_w]
                           rfl
                         exact norm_ (by first | (simp only [putAll, Act.put, List.setIfInBounds_toArray, List.set_cons_zero, List.set_cons_succ]; done) | (simp only [putAll, Act.put, List.setIfInBounds_toArray, List.set_cons_zero, List.set_cons_succ]; rfl)) (hJ2_5_6 (gb256) _ ⟨hHeld, (by (with_reducible repeat (first | refine blk_drewN ?_ _ | refine blk_drew ?_ | refine blk_alloc ?_ _)); exact BK242.out), (by (with_reducible repeat (first | refine blk_drewN ?_ _ | refine blk_drew ?_ | refine blk_alloc ?_ _)); exact BK243.out), (by (with_reducible repeat (first | refine blk_drewN ?_ _ | refine blk_drew ?_ | refine blk_alloc ?_ _)); exact BK256.out), GW256.out, GE256.out, NB242_256.out, NB256_242.out, NB243_256.out, NB256_243.out, (by repeat (first | (with_reducible first | exact HB.out | apply below_alloc | apply pw_below_drewN | apply below_drew1 | refine below_set ?_ GE242.out | refine below_set ?_ GE243.out | refine below_set ?_ GE256.out) | exact HB.out))⟩)
                       · skip
                         refine box_step ?hg (N := 10) ?hd (cs := #[.string (⟨#[]⟩ : ByteArray), .int .i64 0, .int .i64 0, .float .f64 0, .bool false, .bool false]) (t := 24) ?hr ?_; (case hd => rfl); (case hg => rfl); (case hr => first | (go_simp; done) | (go_simp; rfl))
                         intro gb257 hg w22 hbox hb
                         have n0_ := Aside0.mk (blk_below (g := gb242) (o := .cells #[.string a0_0, .int .i64 a0_1, .int .i64 a0_2, .float .f64 a0_3, .bool a0_4, .bool a0_5] 24 (0, 0)) (by (with_reducible repeat (first | refine blk_drewN ?_ _ | refine blk_drew ?_ | refine blk_alloc ?_ _)); exact BK242.out) hb)
                         have n1_ := Aside0.mk (blk_below (g := gb243) (o := .cells #[.string a1_0, .int .i64 a1_1, .int .i64 a1_2, .float .f64 a1_3, .bool a1_4, .bool a1_5] 24 (0, 0)) (by (with_reducible repeat (first | refine blk_drewN ?_ _ | refine blk_drew ?_ | refine blk_alloc ?_ _)); exact BK243.out) hb)
                         have n2_ := Aside0.mk (below_step (by repeat (first | (with_reducible first | exact HB.out | apply below_alloc | apply pw_below_drewN | apply below_drew1 | refine below_set ?_ GE242.out | refine below_set ?_ GE243.out) | exact HB.out)) hb)
                         have n3_ := Aside0.mk (hbox)
                         have n4_ := Aside0.mk ((by rw [hg]; exact (below_size (by repeat (first | (with_reducible first | exact HB.out | apply below_alloc | apply pw_below_drewN | apply below_drew1 | refine below_set ?_ GE242.out | refine below_set ?_ GE243.out) | exact HB.out))) : w.heap.size ≤ gb257))
                         have n5_ := Aside0.mk ((by rw [hg]; exact (below_size (by repeat (first | (with_reducible first | exact HB.out | apply below_alloc | apply pw_below_drewN | apply below_drew1 | refine below_set ?_ GE242.out | refine below_set ?_ GE243.out) | exact HB.out))) : w.heap.size ≤ gb257))
                         have n6_ := Aside0.mk ((by rw [hg]; exact Nat.ne_of_lt (blk_lt (g := gb242) (o := .cells #[.string a0_0, .int .i64 a0_1, .int .i64 a0_2, .float .f64 a0_3, .bool a0_4, .bool a0_5] 24 (0, 0)) (by (with_reducible repeat (first | refine blk_drewN ?_ _ | refine blk_drew ?_ | refine blk_alloc ?_ _)); exact BK242.out)) : gb242 ≠ gb257))
                         have n7_ := Aside0.mk ((by rw [hg]; exact Nat.ne_of_gt (blk_lt (g := gb242) (o := .cells #[.string a0_0, .int .i64 a0_1, .int .i64 a0_2, .float .f64 a0_3, .bool a0_4, .bool a0_5] 24 (0, 0)) (by (with_reducible repeat (first | refine blk_drewN ?_ _ | refine blk_drew ?_ | refine blk_alloc ?_ _)); exact BK242.out)) : gb257 ≠ gb242))
                         have n8_ := Aside0.mk ((by rw [hg]; exact Nat.ne_of_lt (blk_lt (g := gb243) (o := .cells #[.string a1_0, .int .i64 a1_1, .int .i64 a1_2, .float .f64 a1_3, .bool a1_4, .bool a1_5] 24 (0, 0)) (by (with_reducible repeat (first | refine blk_drewN ?_ _ | refine blk_drew ?_ | refine blk_alloc ?_ _)); exact BK243.out)) : gb243 ≠ gb257))
                         have n9_ := Aside0.mk ((by rw [hg]; exact Nat.ne_of_gt (blk_lt (g := gb243) (o := .cells #[.string a1_0, .int .i64 a1_1, .int .i64 a1_2, .float .f64 a1_3, .bool a1_4, .bool a1_5] 24 (0, 0)) (by (with_reducible repeat (first | refine blk_drewN ?_ _ | refine blk_drew ?_ | refine blk_alloc ?_ _)); exact BK243.out)) : gb257 ≠ gb243))
                         clear BK242
                         clear BK243
                         clear HB
                         have BK242 := n0_
                         have BK243 := n1_
                         have HB := n2_
                         have BK257 := n3_
                         have GW257 := n4_
                         have GE257 := n5_
                         have NB242_257 := n6_
                         have NB257_242 := n7_
                         have NB243_257 := n8_
                         have NB257_243 := n9_
                         clear n0_ n1_ n2_ n3_ n4_ n5_ n6_ n7_ n8_ n9_
                         clear hb hbox hg
                         refine hK.out _ _ ⟨(blk_cell BK242.out 0).trans rfl, (blk_cell BK242.out 1).trans rfl, (blk_cell BK242.out 2).trans rfl, (blk_cell BK242.out 3).trans rfl, (blk_cell BK242.out 4).trans rfl, (blk_cell BK242.out 5).trans rfl, (blk_cell BK243.out 0).trans rfl, (blk_cell BK243.out 1).trans rfl, (blk_cell BK243.out 2).trans rfl, (blk_cell BK243.out 3).trans rfl, (blk_cell BK243.out 4).trans rfl, (blk_cell BK243.out 5).trans rfl⟩ (fun hHeld => ?_)
                         clear hK K
                         refine norm_ (a' := ?_) ?_ ?_
                         rotate_left
                         · show Act.put _ (some 10) _ = _
                           simp only [Act.put, List.setIfInBounds_toArray, List.set_cons_zero, List.set_cons_succ, i64_w, i32_w]
                           rfl
                         exact norm_ (by first | (simp only [putAll, Act.put, List.setIfInBounds_toArray, List.set_cons_zero, List.set_cons_succ]; done) | (simp only [putAll, Act.put, List.setIfInBounds_toArray, List.set_cons_zero, List.set_cons_succ]; rfl)) (hJ2_5_7 (gb257) _ ⟨hHeld, (by (with_reducible repeat (first | refine blk_drewN ?_ _ | refine blk_drew ?_ | refine blk_alloc ?_ _)); exact BK242.out), (by (with_reducible repeat (first | refine blk_drewN ?_ _ | refine blk_drew ?_ | refine blk_alloc ?_ _)); exact BK243.out), (by (with_reducible repeat (first | refine blk_drewN ?_ _ | refine blk_drew ?_ | refine blk_alloc ?_ _)); exact BK257.out), GW257.out, GE257.out, NB242_257.out, NB257_242.out, NB243_257.out, NB257_243.out, (by repeat (first | (with_reducible first | exact HB.out | apply below_alloc | apply pw_below_drewN | apply below_drew1 | refine below_set ?_ GE242.out | refine below_set ?_ GE243.out | refine below_set ?_ GE257.out) | exact HB.out))⟩)
                   · skip
                     rintro ⟨gb256, gb257⟩ w22 ⟨hS_, h0_, h1_, h2_, h3_, h4_, h5_, h6_, h7_, h8_, h9_, h10_, h11_, h12_, h13_, h14_, h15_, h16_, h17_, h18_⟩
                     have n0_ : Aside0 (w22.heap[gb242]? = some (.cells #[.string a0_0, .int .i64 a0_1, .int .i64 a0_2, .float .f64 a0_3, .bool a0_4, .bool a0_5] 24 (0, 0))) := ⟨h0_⟩
                     have n1_ : Aside0 (w22.heap[gb243]? = some (.cells #[.string a1_0, .int .i64 a1_1, .int .i64 a1_2, .float .f64 a1_3, .bool a1_4, .bool a1_5] 24 (0, 0))) := ⟨h1_⟩
                     have n2_ : Aside0 (w22.heap[gb256]? = some (.cells #[.string (⟨#[]⟩ : ByteArray), .int .i64 0, .int .i64 0, .float .f64 0, .bool false, .bool false] 24 (0, 0))) := ⟨h2_⟩
                     have n3_ : Aside0 (w22.heap[gb257]? = some (.cells #[.string (⟨#[]⟩ : ByteArray), .int .i64 0, .int .i64 0, .float .f64 0, .bool false, .bool false] 24 (0, 0))) := ⟨h3_⟩
                     have n4_ : Aside0 (w.heap.size ≤ gb256) := ⟨h4_⟩
                     have n5_ : Aside0 (w.heap.size ≤ gb256) := ⟨h5_⟩
                     have n6_ : Aside0 (gb242 ≠ gb256) := ⟨h6_⟩
                     have n7_ : Aside0 (gb256 ≠ gb242) := ⟨h7_⟩
                     have n8_ : Aside0 (gb243 ≠ gb256) := ⟨h8_⟩
                     have n9_ : Aside0 (gb256 ≠ gb243) := ⟨h9_⟩
                     have n10_ : Aside0 (gb257 ≠ gb256) := ⟨h10_⟩
                     have n11_ : Aside0 (gb256 ≠ gb257) := ⟨h11_⟩
                     have n12_ : Aside0 (w.heap.size ≤ gb257) := ⟨h12_⟩
                     have n13_ : Aside0 (w.heap.size ≤ gb257) := ⟨h13_⟩
                     have n14_ : Aside0 (gb242 ≠ gb257) := ⟨h14_⟩
                     have n15_ : Aside0 (gb257 ≠ gb242) := ⟨h15_⟩
                     have n16_ : Aside0 (gb243 ≠ gb257) := ⟨h16_⟩
                     have n17_ : Aside0 (gb257 ≠ gb243) := ⟨h17_⟩
                     have n18_ : Aside0 (Below w.heap.size w w22) := ⟨h18_⟩
                     clear BK242
                     clear BK243
                     clear HB
                     clear h0_ h1_ h2_ h3_ h4_ h5_ h6_ h7_ h8_ h9_ h10_ h11_ h12_ h13_ h14_ h15_ h16_ h17_ h18_
                     have BK242 := n0_
                     have BK243 := n1_
                     have BK256 := n2_
                     have BK257 := n3_
                     have GW256 := n4_
                     have GE256 := n5_
                     have NB242_256 := n6_
                     have NB256_242 := n7_
                     have NB243_256 := n8_
                     have NB256_243 := n9_
                     have NB257_256 := n10_
                     have NB256_257 := n11_
                     have GW257 := n12_
                     have GE257 := n13_
                     have NB242_257 := n14_
                     have NB257_242 := n15_
                     have NB243_257 := n16_
                     have NB257_243 := n17_
                     have HB := n18_
                     clear n0_ n1_ n2_ n3_ n4_ n5_ n6_ n7_ n8_ n9_ n10_ n11_ n12_ n13_ n14_ n15_ n16_ n17_ n18_
                     have hHeld : w22.cell? ⟨gb242, 0, none⟩ = some (.string a0_0) ∧ w22.cell? ⟨gb242, 1, none⟩ = some (.int .i64 a0_1) ∧ w22.cell? ⟨gb242, 2, none⟩ = some (.int .i64 a0_2) ∧ w22.cell? ⟨gb242, 3, none⟩ = some (.float .f64 a0_3) ∧ w22.cell? ⟨gb242, 4, none⟩ = some (.bool a0_4) ∧ w22.cell? ⟨gb242, 5, none⟩ = some (.bool a0_5) ∧ w22.cell? ⟨gb243, 0, none⟩ = some (.string a1_0) ∧ w22.cell? ⟨gb243, 1, none⟩ = some (.int .i64 a1_1) ∧ w22.cell? ⟨gb243, 2, none⟩ = some (.int .i64 a1_2) ∧ w22.cell? ⟨gb243, 3, none⟩ = some (.float .f64 a1_3) ∧ w22.cell? ⟨gb243, 4, none⟩ = some (.bool a1_4) ∧ w22.cell? ⟨gb243, 5, none⟩ = some (.bool a1_5) := hS_
                     refine norm_ (a' := ?_) ?_ ?_
                     rotate_left
                     · simp only [putAll, Act.put, List.setIfInBounds_toArray, List.set_cons_zero, List.set_cons_succ]
                       rfl
                     refine one_ (i := 5) (N := some 16) #[true, true, true, true, true, true, true, true, false, false] rfl rfl (one_of HT_.out (by kernel_rfl)) (by decide) (fun K hK => ?_)
                     refine goes_ Try.func10 (by kernel_rfl) rfl #[.agg #[.string a1_0, .int .i64 a1_1, .int .i64 a1_2, .float .f64 a1_3, .bool a1_4, .bool a1_5], .int .u64 a3] (by rfl) rfl rfl (by (try simp only [List.map_toArray, List.map_cons, List.map_nil]); first | done | rfl | (simp only [List.length_drop, List.length_take]; rfl)) ?_
                     with_reducible refine (turncocklaw16_of.calls a1_0 a1_1 a1_2 a1_3 a1_4 a1_5 a3 t250 t251 t252 t253 t254 t255 _ A6.out).mono ?_
                     rintro e w23 ⟨rfl, hb⟩
                     refine ⟨_, rfl, ?_⟩
                     have n0_ := Aside0.mk (blk_below (g := gb242) (o := .cells #[.string a0_0, .int .i64 a0_1, .int .i64 a0_2, .float .f64 a0_3, .bool a0_4, .bool a0_5] 24 (0, 0)) (by (with_reducible repeat (first | refine blk_drewN ?_ _ | refine blk_drew ?_ | refine blk_alloc ?_ _)); exact BK242.out) hb)
                     have n1_ := Aside0.mk (blk_below (g := gb243) (o := .cells #[.string a1_0, .int .i64 a1_1, .int .i64 a1_2, .float .f64 a1_3, .bool a1_4, .bool a1_5] 24 (0, 0)) (by (with_reducible repeat (first | refine blk_drewN ?_ _ | refine blk_drew ?_ | refine blk_alloc ?_ _)); exact BK243.out) hb)
                     have n2_ := Aside0.mk (blk_below (g := gb256) (o := .cells #[.string (⟨#[]⟩ : ByteArray), .int .i64 0, .int .i64 0, .float .f64 0, .bool false, .bool false] 24 (0, 0)) (by (with_reducible repeat (first | refine blk_drewN ?_ _ | refine blk_drew ?_ | refine blk_alloc ?_ _)); exact BK256.out) hb)
                     have n3_ := Aside0.mk (blk_below (g := gb257) (o := .cells #[.string (⟨#[]⟩ : ByteArray), .int .i64 0, .int .i64 0, .float .f64 0, .bool false, .bool false] 24 (0, 0)) (by (with_reducible repeat (first | refine blk_drewN ?_ _ | refine blk_drew ?_ | refine blk_alloc ?_ _)); exact BK257.out) hb)
                     have n4_ := Aside0.mk (below_step (by repeat (first | (with_reducible first | exact HB.out | apply below_alloc | apply pw_below_drewN | apply below_drew1 | refine below_set ?_ GE242.out | refine below_set ?_ GE243.out | refine below_set ?_ GE256.out | refine below_set ?_ GE257.out) | exact HB.out)) hb)
                     clear BK242
                     clear BK243
                     clear BK256
                     clear BK257
                     clear HB
                     have BK242 := n0_
                     have BK243 := n1_
                     have BK256 := n2_
                     have BK257 := n3_
                     have HB := n4_
                     clear n0_ n1_ n2_ n3_ n4_
                     (try clear hb)
                     (try clear hb2)
                     (try clear hk)
                     (try clear hi)
                     refine hK.out _ _ ⟨(blk_cell BK242.out 0).trans rfl, (blk_cell BK242.out 1).trans rfl, (blk_cell BK242.out 2).trans rfl, (blk_cell BK242.out 3).trans rfl, (blk_cell BK242.out 4).trans rfl, (blk_cell BK242.out 5).trans rfl, (blk_cell BK243.out 0).trans rfl, (blk_cell BK243.out 1).trans rfl, (blk_cell BK243.out 2).trans rfl, (blk_cell BK243.out 3).trans rfl, (blk_cell BK243.out 4).trans rfl, (blk_cell BK243.out 5).trans rfl⟩ (fun hHeld => ?_)
                     clear hK K
                     refine norm_ (a' := ?_) ?_ ?_
                     rotate_left
                     · show Act.put _ (some 16) _ = _
                       simp only [Act.put, List.setIfInBounds_toArray, List.set_cons_zero, List.set_cons_succ, i64_w, i32_w]
                       rfl
                     exact norm_ (by first | (simp only [putAll, Act.put, List.setIfInBounds_toArray, List.set_cons_zero, List.set_cons_succ]; done) | (simp only [putAll, Act.put, List.setIfInBounds_toArray, List.set_cons_zero, List.set_cons_succ]; rfl)) (hJ2_5_6_7 (gb256, gb257) _ ⟨hHeld, (by (with_reducible repeat (first | refine blk_drewN ?_ _ | refine blk_drew ?_ | refine blk_alloc ?_ _)); exact BK242.out), (by (with_reducible repeat (first | refine blk_drewN ?_ _ | refine blk_drew ?_ | refine blk_alloc ?_ _)); exact BK243.out), (by (with_reducible repeat (first | refine blk_drewN ?_ _ | refine blk_drew ?_ | refine blk_alloc ?_ _)); exact BK256.out), (by (with_reducible repeat (first | refine blk_drewN ?_ _ | refine blk_drew ?_ | refine blk_alloc ?_ _)); exact BK257.out), GW256.out, GE256.out, NB242_256.out, NB256_242.out, NB243_256.out, NB256_243.out, NB257_256.out, NB256_257.out, GW257.out, GE257.out, NB242_257.out, NB257_242.out, NB243_257.out, NB257_243.out, (by repeat (first | (with_reducible first | exact HB.out | apply below_alloc | apply pw_below_drewN | apply below_drew1 | refine below_set ?_ GE242.out | refine below_set ?_ GE243.out | refine below_set ?_ GE256.out | refine below_set ?_ GE257.out) | exact HB.out))⟩)
                 · skip
                   rintro gb257 w22 ⟨hS_, h0_, h1_, h2_, h3_, h4_, h5_, h6_, h7_, h8_, h9_⟩
                   have n0_ : Aside0 (w22.heap[gb242]? = some (.cells #[.string a0_0, .int .i64 a0_1, .int .i64 a0_2, .float .f64 a0_3, .bool a0_4, .bool a0_5] 24 (0, 0))) := ⟨h0_⟩
                   have n1_ : Aside0 (w22.heap[gb243]? = some (.cells #[.string a1_0, .int .i64 a1_1, .int .i64 a1_2, .float .f64 a1_3, .bool a1_4, .bool a1_5] 24 (0, 0))) := ⟨h1_⟩
                   have n2_ : Aside0 (w22.heap[gb257]? = some (.cells #[.string (⟨#[]⟩ : ByteArray), .int .i64 0, .int .i64 0, .float .f64 0, .bool false, .bool false] 24 (0, 0))) := ⟨h2_⟩
                   have n3_ : Aside0 (w.heap.size ≤ gb257) := ⟨h3_⟩
                   have n4_ : Aside0 (w.heap.size ≤ gb257) := ⟨h4_⟩
                   have n5_ : Aside0 (gb242 ≠ gb257) := ⟨h5_⟩
                   have n6_ : Aside0 (gb257 ≠ gb242) := ⟨h6_⟩
                   have n7_ : Aside0 (gb243 ≠ gb257) := ⟨h7_⟩
                   have n8_ : Aside0 (gb257 ≠ gb243) := ⟨h8_⟩
                   have n9_ : Aside0 (Below w.heap.size w w22) := ⟨h9_⟩
                   clear BK242
                   clear BK243
                   clear HB
                   clear h0_ h1_ h2_ h3_ h4_ h5_ h6_ h7_ h8_ h9_
                   have BK242 := n0_
                   have BK243 := n1_
                   have BK257 := n2_
                   have GW257 := n3_
                   have GE257 := n4_
                   have NB242_257 := n5_
                   have NB257_242 := n6_
                   have NB243_257 := n7_
                   have NB257_243 := n8_
                   have HB := n9_
                   clear n0_ n1_ n2_ n3_ n4_ n5_ n6_ n7_ n8_ n9_
                   have hHeld : w22.cell? ⟨gb242, 0, none⟩ = some (.string a0_0) ∧ w22.cell? ⟨gb242, 1, none⟩ = some (.int .i64 a0_1) ∧ w22.cell? ⟨gb242, 2, none⟩ = some (.int .i64 a0_2) ∧ w22.cell? ⟨gb242, 3, none⟩ = some (.float .f64 a0_3) ∧ w22.cell? ⟨gb242, 4, none⟩ = some (.bool a0_4) ∧ w22.cell? ⟨gb242, 5, none⟩ = some (.bool a0_5) ∧ w22.cell? ⟨gb243, 0, none⟩ = some (.string a1_0) ∧ w22.cell? ⟨gb243, 1, none⟩ = some (.int .i64 a1_1) ∧ w22.cell? ⟨gb243, 2, none⟩ = some (.int .i64 a1_2) ∧ w22.cell? ⟨gb243, 3, none⟩ = some (.float .f64 a1_3) ∧ w22.cell? ⟨gb243, 4, none⟩ = some (.bool a1_4) ∧ w22.cell? ⟨gb243, 5, none⟩ = some (.bool a1_5) := hS_
                   refine norm_ (a' := ?_) ?_ ?_
                   rotate_left
                   · simp only [putAll, Act.put, List.setIfInBounds_toArray, List.set_cons_zero, List.set_cons_succ]
                     rfl
                   refine one_ (i := 6) (N := some 9) #[true, true, true, true, true, true, true, true, false, false] rfl rfl (one_of HT_.out (by kernel_rfl)) (by decide) (fun K hK => ?_)
                   refine box_step ?hg (N := 9) ?hd (cs := #[.string (⟨#[]⟩ : ByteArray), .int .i64 0, .int .i64 0, .float .f64 0, .bool false, .bool false]) (t := 24) ?hr ?_; (case hd => rfl); (case hg => rfl); (case hr => first | (go_simp; done) | (go_simp; rfl))
                   intro gb256 hg w23 hbox hb
                   have n0_ := Aside0.mk (blk_below (g := gb242) (o := .cells #[.string a0_0, .int .i64 a0_1, .int .i64 a0_2, .float .f64 a0_3, .bool a0_4, .bool a0_5] 24 (0, 0)) (by (with_reducible repeat (first | refine blk_drewN ?_ _ | refine blk_drew ?_ | refine blk_alloc ?_ _)); exact BK242.out) hb)
                   have n1_ := Aside0.mk (blk_below (g := gb243) (o := .cells #[.string a1_0, .int .i64 a1_1, .int .i64 a1_2, .float .f64 a1_3, .bool a1_4, .bool a1_5] 24 (0, 0)) (by (with_reducible repeat (first | refine blk_drewN ?_ _ | refine blk_drew ?_ | refine blk_alloc ?_ _)); exact BK243.out) hb)
                   have n2_ := Aside0.mk (blk_below (g := gb257) (o := .cells #[.string (⟨#[]⟩ : ByteArray), .int .i64 0, .int .i64 0, .float .f64 0, .bool false, .bool false] 24 (0, 0)) (by (with_reducible repeat (first | refine blk_drewN ?_ _ | refine blk_drew ?_ | refine blk_alloc ?_ _)); exact BK257.out) hb)
                   have n3_ := Aside0.mk (below_step (by repeat (first | (with_reducible first | exact HB.out | apply below_alloc | apply pw_below_drewN | apply below_drew1 | refine below_set ?_ GE242.out | refine below_set ?_ GE243.out | refine below_set ?_ GE257.out) | exact HB.out)) hb)
                   have n4_ := Aside0.mk (hbox)
                   have n5_ := Aside0.mk ((by rw [hg]; exact (below_size (by repeat (first | (with_reducible first | exact HB.out | apply below_alloc | apply pw_below_drewN | apply below_drew1 | refine below_set ?_ GE242.out | refine below_set ?_ GE243.out | refine below_set ?_ GE257.out) | exact HB.out))) : w.heap.size ≤ gb256))
                   have n6_ := Aside0.mk ((by rw [hg]; exact (below_size (by repeat (first | (with_reducible first | exact HB.out | apply below_alloc | apply pw_below_drewN | apply below_drew1 | refine below_set ?_ GE242.out | refine below_set ?_ GE243.out | refine below_set ?_ GE257.out) | exact HB.out))) : w.heap.size ≤ gb256))
                   have n7_ := Aside0.mk ((by rw [hg]; exact Nat.ne_of_lt (blk_lt (g := gb242) (o := .cells #[.string a0_0, .int .i64 a0_1, .int .i64 a0_2, .float .f64 a0_3, .bool a0_4, .bool a0_5] 24 (0, 0)) (by (with_reducible repeat (first | refine blk_drewN ?_ _ | refine blk_drew ?_ | refine blk_alloc ?_ _)); exact BK242.out)) : gb242 ≠ gb256))
                   have n8_ := Aside0.mk ((by rw [hg]; exact Nat.ne_of_gt (blk_lt (g := gb242) (o := .cells #[.string a0_0, .int .i64 a0_1, .int .i64 a0_2, .float .f64 a0_3, .bool a0_4, .bool a0_5] 24 (0, 0)) (by (with_reducible repeat (first | refine blk_drewN ?_ _ | refine blk_drew ?_ | refine blk_alloc ?_ _)); exact BK242.out)) : gb256 ≠ gb242))
                   have n9_ := Aside0.mk ((by rw [hg]; exact Nat.ne_of_lt (blk_lt (g := gb243) (o := .cells #[.string a1_0, .int .i64 a1_1, .int .i64 a1_2, .float .f64 a1_3, .bool a1_4, .bool a1_5] 24 (0, 0)) (by (with_reducible repeat (first | refine blk_drewN ?_ _ | refine blk_drew ?_ | refine blk_alloc ?_ _)); exact BK243.out)) : gb243 ≠ gb256))
                   have n10_ := Aside0.mk ((by rw [hg]; exact Nat.ne_of_gt (blk_lt (g := gb243) (o := .cells #[.string a1_0, .int .i64 a1_1, .int .i64 a1_2, .float .f64 a1_3, .bool a1_4, .bool a1_5] 24 (0, 0)) (by (with_reducible repeat (first | refine blk_drewN ?_ _ | refine blk_drew ?_ | refine blk_alloc ?_ _)); exact BK243.out)) : gb256 ≠ gb243))
                   have n11_ := Aside0.mk ((by rw [hg]; exact Nat.ne_of_lt (blk_lt (g := gb257) (o := .cells #[.string (⟨#[]⟩ : ByteArray), .int .i64 0, .int .i64 0, .float .f64 0, .bool false, .bool false] 24 (0, 0)) (by (with_reducible repeat (first | refine blk_drewN ?_ _ | refine blk_drew ?_ | refine blk_alloc ?_ _)); exact BK257.out)) : gb257 ≠ gb256))
                   have n12_ := Aside0.mk ((by rw [hg]; exact Nat.ne_of_gt (blk_lt (g := gb257) (o := .cells #[.string (⟨#[]⟩ : ByteArray), .int .i64 0, .int .i64 0, .float .f64 0, .bool false, .bool false] 24 (0, 0)) (by (with_reducible repeat (first | refine blk_drewN ?_ _ | refine blk_drew ?_ | refine blk_alloc ?_ _)); exact BK257.out)) : gb256 ≠ gb257))
                   clear BK242
                   clear BK243
                   clear BK257
                   clear HB
                   have BK242 := n0_
                   have BK243 := n1_
                   have BK257 := n2_
                   have HB := n3_
                   have BK256 := n4_
                   have GW256 := n5_
                   have GE256 := n6_
                   have NB242_256 := n7_
                   have NB256_242 := n8_
                   have NB243_256 := n9_
                   have NB256_243 := n10_
                   have NB257_256 := n11_
                   have NB256_257 := n12_
                   clear n0_ n1_ n2_ n3_ n4_ n5_ n6_ n7_ n8_ n9_ n10_ n11_ n12_
                   clear hb hbox hg
                   refine hK.out _ _ ⟨(blk_cell BK242.out 0).trans rfl, (blk_cell BK242.out 1).trans rfl, (blk_cell BK242.out 2).trans rfl, (blk_cell BK242.out 3).trans rfl, (blk_cell BK242.out 4).trans rfl, (blk_cell BK242.out 5).trans rfl, (blk_cell BK243.out 0).trans rfl, (blk_cell BK243.out 1).trans rfl, (blk_cell BK243.out 2).trans rfl, (blk_cell BK243.out 3).trans rfl, (blk_cell BK243.out 4).trans rfl, (blk_cell BK243.out 5).trans rfl⟩ (fun hHeld => ?_)
                   clear hK K
                   refine norm_ (a' := ?_) ?_ ?_
                   rotate_left
                   · show Act.put _ (some 9) _ = _
                     simp only [Act.put, List.setIfInBounds_toArray, List.set_cons_zero, List.set_cons_succ, i64_w, i32_w]
                     rfl
                   exact norm_ (by first | (simp only [putAll, Act.put, List.setIfInBounds_toArray, List.set_cons_zero, List.set_cons_succ]; done) | (simp only [putAll, Act.put, List.setIfInBounds_toArray, List.set_cons_zero, List.set_cons_succ]; rfl)) (hJ2_5_6_7 (gb256, gb257) _ ⟨hHeld, (by (with_reducible repeat (first | refine blk_drewN ?_ _ | refine blk_drew ?_ | refine blk_alloc ?_ _)); exact BK242.out), (by (with_reducible repeat (first | refine blk_drewN ?_ _ | refine blk_drew ?_ | refine blk_alloc ?_ _)); exact BK243.out), (by (with_reducible repeat (first | refine blk_drewN ?_ _ | refine blk_drew ?_ | refine blk_alloc ?_ _)); exact BK256.out), (by (with_reducible repeat (first | refine blk_drewN ?_ _ | refine blk_drew ?_ | refine blk_alloc ?_ _)); exact BK257.out), GW256.out, GE256.out, NB242_256.out, NB256_242.out, NB243_256.out, NB256_243.out, NB257_256.out, NB256_257.out, GW257.out, GE257.out, NB242_257.out, NB257_242.out, NB243_257.out, NB257_243.out, (by repeat (first | (with_reducible first | exact HB.out | apply below_alloc | apply pw_below_drewN | apply below_drew1 | refine below_set ?_ GE242.out | refine below_set ?_ GE243.out | refine below_set ?_ GE257.out | refine below_set ?_ GE256.out) | exact HB.out))⟩)
               · skip
                 rintro gb256 w22 ⟨hS_, h0_, h1_, h2_, h3_, h4_, h5_, h6_, h7_, h8_, h9_⟩
                 have n0_ : Aside0 (w22.heap[gb242]? = some (.cells #[.string a0_0, .int .i64 a0_1, .int .i64 a0_2, .float .f64 a0_3, .bool a0_4, .bool a0_5] 24 (0, 0))) := ⟨h0_⟩
                 have n1_ : Aside0 (w22.heap[gb243]? = some (.cells #[.string a1_0, .int .i64 a1_1, .int .i64 a1_2, .float .f64 a1_3, .bool a1_4, .bool a1_5] 24 (0, 0))) := ⟨h1_⟩
                 have n2_ : Aside0 (w22.heap[gb256]? = some (.cells #[.string (⟨#[]⟩ : ByteArray), .int .i64 0, .int .i64 0, .float .f64 0, .bool false, .bool false] 24 (0, 0))) := ⟨h2_⟩
                 have n3_ : Aside0 (w.heap.size ≤ gb256) := ⟨h3_⟩
                 have n4_ : Aside0 (w.heap.size ≤ gb256) := ⟨h4_⟩
                 have n5_ : Aside0 (gb242 ≠ gb256) := ⟨h5_⟩
                 have n6_ : Aside0 (gb256 ≠ gb242) := ⟨h6_⟩
                 have n7_ : Aside0 (gb243 ≠ gb256) := ⟨h7_⟩
                 have n8_ : Aside0 (gb256 ≠ gb243) := ⟨h8_⟩
                 have n9_ : Aside0 (Below w.heap.size w w22) := ⟨h9_⟩
                 clear BK242
                 clear BK243
                 clear HB
                 clear h0_ h1_ h2_ h3_ h4_ h5_ h6_ h7_ h8_ h9_
                 have BK242 := n0_
                 have BK243 := n1_
                 have BK256 := n2_
                 have GW256 := n3_
                 have GE256 := n4_
                 have NB242_256 := n5_
                 have NB256_242 := n6_
                 have NB243_256 := n7_
                 have NB256_243 := n8_
                 have HB := n9_
                 clear n0_ n1_ n2_ n3_ n4_ n5_ n6_ n7_ n8_ n9_
                 have hHeld : w22.cell? ⟨gb242, 0, none⟩ = some (.string a0_0) ∧ w22.cell? ⟨gb242, 1, none⟩ = some (.int .i64 a0_1) ∧ w22.cell? ⟨gb242, 2, none⟩ = some (.int .i64 a0_2) ∧ w22.cell? ⟨gb242, 3, none⟩ = some (.float .f64 a0_3) ∧ w22.cell? ⟨gb242, 4, none⟩ = some (.bool a0_4) ∧ w22.cell? ⟨gb242, 5, none⟩ = some (.bool a0_5) ∧ w22.cell? ⟨gb243, 0, none⟩ = some (.string a1_0) ∧ w22.cell? ⟨gb243, 1, none⟩ = some (.int .i64 a1_1) ∧ w22.cell? ⟨gb243, 2, none⟩ = some (.int .i64 a1_2) ∧ w22.cell? ⟨gb243, 3, none⟩ = some (.float .f64 a1_3) ∧ w22.cell? ⟨gb243, 4, none⟩ = some (.bool a1_4) ∧ w22.cell? ⟨gb243, 5, none⟩ = some (.bool a1_5) := hS_
                 refine norm_ (a' := ?_) ?_ ?_
                 rotate_left
                 · simp only [putAll, Act.put, List.setIfInBounds_toArray, List.set_cons_zero, List.set_cons_succ]
                   rfl
                 refine one_ (i := 7) (N := some 10) #[true, true, true, true, true, true, true, true, false, false] rfl rfl (one_of HT_.out (by kernel_rfl)) (by decide) (fun K hK => ?_)
                 refine box_step ?hg (N := 10) ?hd (cs := #[.string (⟨#[]⟩ : ByteArray), .int .i64 0, .int .i64 0, .float .f64 0, .bool false, .bool false]) (t := 24) ?hr ?_; (case hd => rfl); (case hg => rfl); (case hr => first | (go_simp; done) | (go_simp; rfl))
                 intro gb257 hg w23 hbox hb
                 have n0_ := Aside0.mk (blk_below (g := gb242) (o := .cells #[.string a0_0, .int .i64 a0_1, .int .i64 a0_2, .float .f64 a0_3, .bool a0_4, .bool a0_5] 24 (0, 0)) (by (with_reducible repeat (first | refine blk_drewN ?_ _ | refine blk_drew ?_ | refine blk_alloc ?_ _)); exact BK242.out) hb)
                 have n1_ := Aside0.mk (blk_below (g := gb243) (o := .cells #[.string a1_0, .int .i64 a1_1, .int .i64 a1_2, .float .f64 a1_3, .bool a1_4, .bool a1_5] 24 (0, 0)) (by (with_reducible repeat (first | refine blk_drewN ?_ _ | refine blk_drew ?_ | refine blk_alloc ?_ _)); exact BK243.out) hb)
                 have n2_ := Aside0.mk (blk_below (g := gb256) (o := .cells #[.string (⟨#[]⟩ : ByteArray), .int .i64 0, .int .i64 0, .float .f64 0, .bool false, .bool false] 24 (0, 0)) (by (with_reducible repeat (first | refine blk_drewN ?_ _ | refine blk_drew ?_ | refine blk_alloc ?_ _)); exact BK256.out) hb)
                 have n3_ := Aside0.mk (below_step (by repeat (first | (with_reducible first | exact HB.out | apply below_alloc | apply pw_below_drewN | apply below_drew1 | refine below_set ?_ GE242.out | refine below_set ?_ GE243.out | refine below_set ?_ GE256.out) | exact HB.out)) hb)
                 have n4_ := Aside0.mk (hbox)
                 have n5_ := Aside0.mk ((by rw [hg]; exact (below_size (by repeat (first | (with_reducible first | exact HB.out | apply below_alloc | apply pw_below_drewN | apply below_drew1 | refine below_set ?_ GE242.out | refine below_set ?_ GE243.out | refine below_set ?_ GE256.out) | exact HB.out))) : w.heap.size ≤ gb257))
                 have n6_ := Aside0.mk ((by rw [hg]; exact (below_size (by repeat (first | (with_reducible first | exact HB.out | apply below_alloc | apply pw_below_drewN | apply below_drew1 | refine below_set ?_ GE242.out | refine below_set ?_ GE243.out | refine below_set ?_ GE256.out) | exact HB.out))) : w.heap.size ≤ gb257))
                 have n7_ := Aside0.mk ((by rw [hg]; exact Nat.ne_of_lt (blk_lt (g := gb242) (o := .cells #[.string a0_0, .int .i64 a0_1, .int .i64 a0_2, .float .f64 a0_3, .bool a0_4, .bool a0_5] 24 (0, 0)) (by (with_reducible repeat (first | refine blk_drewN ?_ _ | refine blk_drew ?_ | refine blk_alloc ?_ _)); exact BK242.out)) : gb242 ≠ gb257))
                 have n8_ := Aside0.mk ((by rw [hg]; exact Nat.ne_of_gt (blk_lt (g := gb242) (o := .cells #[.string a0_0, .int .i64 a0_1, .int .i64 a0_2, .float .f64 a0_3, .bool a0_4, .bool a0_5] 24 (0, 0)) (by (with_reducible repeat (first | refine blk_drewN ?_ _ | refine blk_drew ?_ | refine blk_alloc ?_ _)); exact BK242.out)) : gb257 ≠ gb242))
                 have n9_ := Aside0.mk ((by rw [hg]; exact Nat.ne_of_lt (blk_lt (g := gb243) (o := .cells #[.string a1_0, .int .i64 a1_1, .int .i64 a1_2, .float .f64 a1_3, .bool a1_4, .bool a1_5] 24 (0, 0)) (by (with_reducible repeat (first | refine blk_drewN ?_ _ | refine blk_drew ?_ | refine blk_alloc ?_ _)); exact BK243.out)) : gb243 ≠ gb257))
                 have n10_ := Aside0.mk ((by rw [hg]; exact Nat.ne_of_gt (blk_lt (g := gb243) (o := .cells #[.string a1_0, .int .i64 a1_1, .int .i64 a1_2, .float .f64 a1_3, .bool a1_4, .bool a1_5] 24 (0, 0)) (by (with_reducible repeat (first | refine blk_drewN ?_ _ | refine blk_drew ?_ | refine blk_alloc ?_ _)); exact BK243.out)) : gb257 ≠ gb243))
                 have n11_ := Aside0.mk ((by rw [hg]; exact Nat.ne_of_lt (blk_lt (g := gb256) (o := .cells #[.string (⟨#[]⟩ : ByteArray), .int .i64 0, .int .i64 0, .float .f64 0, .bool false, .bool false] 24 (0, 0)) (by (with_reducible repeat (first | refine blk_drewN ?_ _ | refine blk_drew ?_ | refine blk_alloc ?_ _)); exact BK256.out)) : gb256 ≠ gb257))
                 have n12_ := Aside0.mk ((by rw [hg]; exact Nat.ne_of_gt (blk_lt (g := gb256) (o := .cells #[.string (⟨#[]⟩ : ByteArray), .int .i64 0, .int .i64 0, .float .f64 0, .bool false, .bool false] 24 (0, 0)) (by (with_reducible repeat (first | refine blk_drewN ?_ _ | refine blk_drew ?_ | refine blk_alloc ?_ _)); exact BK256.out)) : gb257 ≠ gb256))
                 clear BK242
                 clear BK243
                 clear BK256
                 clear HB
                 have BK242 := n0_
                 have BK243 := n1_
                 have BK256 := n2_
                 have HB := n3_
                 have BK257 := n4_
                 have GW257 := n5_
                 have GE257 := n6_
                 have NB242_257 := n7_
                 have NB257_242 := n8_
                 have NB243_257 := n9_
                 have NB257_243 := n10_
                 have NB256_257 := n11_
                 have NB257_256 := n12_
                 clear n0_ n1_ n2_ n3_ n4_ n5_ n6_ n7_ n8_ n9_ n10_ n11_ n12_
                 clear hb hbox hg
                 refine hK.out _ _ ⟨(blk_cell BK242.out 0).trans rfl, (blk_cell BK242.out 1).trans rfl, (blk_cell BK242.out 2).trans rfl, (blk_cell BK242.out 3).trans rfl, (blk_cell BK242.out 4).trans rfl, (blk_cell BK242.out 5).trans rfl, (blk_cell BK243.out 0).trans rfl, (blk_cell BK243.out 1).trans rfl, (blk_cell BK243.out 2).trans rfl, (blk_cell BK243.out 3).trans rfl, (blk_cell BK243.out 4).trans rfl, (blk_cell BK243.out 5).trans rfl⟩ (fun hHeld => ?_)
                 clear hK K
                 refine norm_ (a' := ?_) ?_ ?_
                 rotate_left
                 · show Act.put _ (some 10) _ = _
                   simp only [Act.put, List.setIfInBounds_toArray, List.set_cons_zero, List.set_cons_succ, i64_w, i32_w]
                   rfl
                 exact norm_ (by first | (simp only [putAll, Act.put, List.setIfInBounds_toArray, List.set_cons_zero, List.set_cons_succ]; done) | (simp only [putAll, Act.put, List.setIfInBounds_toArray, List.set_cons_zero, List.set_cons_succ]; rfl)) (hJ2_5_6_7 (gb256, gb257) _ ⟨hHeld, (by (with_reducible repeat (first | refine blk_drewN ?_ _ | refine blk_drew ?_ | refine blk_alloc ?_ _)); exact BK242.out), (by (with_reducible repeat (first | refine blk_drewN ?_ _ | refine blk_drew ?_ | refine blk_alloc ?_ _)); exact BK243.out), (by (with_reducible repeat (first | refine blk_drewN ?_ _ | refine blk_drew ?_ | refine blk_alloc ?_ _)); exact BK256.out), (by (with_reducible repeat (first | refine blk_drewN ?_ _ | refine blk_drew ?_ | refine blk_alloc ?_ _)); exact BK257.out), GW256.out, GE256.out, NB242_256.out, NB256_242.out, NB243_256.out, NB256_243.out, NB257_256.out, NB256_257.out, GW257.out, GE257.out, NB242_257.out, NB257_242.out, NB243_257.out, NB257_243.out, (by repeat (first | (with_reducible first | exact HB.out | apply below_alloc | apply pw_below_drewN | apply below_drew1 | refine below_set ?_ GE242.out | refine below_set ?_ GE243.out | refine below_set ?_ GE256.out | refine below_set ?_ GE257.out) | exact HB.out))⟩)
             rintro ⟨gb256, gb257⟩ w23 ⟨hS_, h0_, h1_, h2_, h3_, h4_, h5_, h6_, h7_, h8_, h9_, h10_, h11_, h12_, h13_, h14_, h15_, h16_, h17_, h18_⟩
             have n0_ : Aside0 (w23.heap[gb242]? = some (.cells #[.string a0_0, .int .i64 a0_1, .int .i64 a0_2, .float .f64 a0_3, .bool a0_4, .bool a0_5] 24 (0, 0))) := ⟨h0_⟩
             have n1_ : Aside0 (w23.heap[gb243]? = some (.cells #[.string a1_0, .int .i64 a1_1, .int .i64 a1_2, .float .f64 a1_3, .bool a1_4, .bool a1_5] 24 (0, 0))) := ⟨h1_⟩
             have n2_ : Aside0 (w23.heap[gb256]? = some (.cells #[.string (⟨#[]⟩ : ByteArray), .int .i64 0, .int .i64 0, .float .f64 0, .bool false, .bool false] 24 (0, 0))) := ⟨h2_⟩
             have n3_ : Aside0 (w23.heap[gb257]? = some (.cells #[.string (⟨#[]⟩ : ByteArray), .int .i64 0, .int .i64 0, .float .f64 0, .bool false, .bool false] 24 (0, 0))) := ⟨h3_⟩
             have n4_ : Aside0 (w.heap.size ≤ gb256) := ⟨h4_⟩
             have n5_ : Aside0 (w.heap.size ≤ gb256) := ⟨h5_⟩
             have n6_ : Aside0 (gb242 ≠ gb256) := ⟨h6_⟩
             have n7_ : Aside0 (gb256 ≠ gb242) := ⟨h7_⟩
             have n8_ : Aside0 (gb243 ≠ gb256) := ⟨h8_⟩
             have n9_ : Aside0 (gb256 ≠ gb243) := ⟨h9_⟩
             have n10_ : Aside0 (gb257 ≠ gb256) := ⟨h10_⟩
             have n11_ : Aside0 (gb256 ≠ gb257) := ⟨h11_⟩
             have n12_ : Aside0 (w.heap.size ≤ gb257) := ⟨h12_⟩
             have n13_ : Aside0 (w.heap.size ≤ gb257) := ⟨h13_⟩
             have n14_ : Aside0 (gb242 ≠ gb257) := ⟨h14_⟩
             have n15_ : Aside0 (gb257 ≠ gb242) := ⟨h15_⟩
             have n16_ : Aside0 (gb243 ≠ gb257) := ⟨h16_⟩
             have n17_ : Aside0 (gb257 ≠ gb243) := ⟨h17_⟩
             have n18_ : Aside0 (Below w.heap.size w w23) := ⟨h18_⟩
             clear BK242
             clear BK243
             clear HB
             clear h0_ h1_ h2_ h3_ h4_ h5_ h6_ h7_ h8_ h9_ h10_ h11_ h12_ h13_ h14_ h15_ h16_ h17_ h18_
             have BK242 := n0_
             have BK243 := n1_
             have BK256 := n2_
             have BK257 := n3_
             have GW256 := n4_
             have GE256 := n5_
             have NB242_256 := n6_
             have NB256_242 := n7_
             have NB243_256 := n8_
             have NB256_243 := n9_
             have NB257_256 := n10_
             have NB256_257 := n11_
             have GW257 := n12_
             have GE257 := n13_
             have NB242_257 := n14_
             have NB257_242 := n15_
             have NB243_257 := n16_
             have NB257_243 := n17_
             have HB := n18_
             clear n0_ n1_ n2_ n3_ n4_ n5_ n6_ n7_ n8_ n9_ n10_ n11_ n12_ n13_ n14_ n15_ n16_ n17_ n18_
             have hHeld : w23.cell? ⟨gb242, 0, none⟩ = some (.string a0_0) ∧ w23.cell? ⟨gb242, 1, none⟩ = some (.int .i64 a0_1) ∧ w23.cell? ⟨gb242, 2, none⟩ = some (.int .i64 a0_2) ∧ w23.cell? ⟨gb242, 3, none⟩ = some (.float .f64 a0_3) ∧ w23.cell? ⟨gb242, 4, none⟩ = some (.bool a0_4) ∧ w23.cell? ⟨gb242, 5, none⟩ = some (.bool a0_5) ∧ w23.cell? ⟨gb243, 0, none⟩ = some (.string a1_0) ∧ w23.cell? ⟨gb243, 1, none⟩ = some (.int .i64 a1_1) ∧ w23.cell? ⟨gb243, 2, none⟩ = some (.int .i64 a1_2) ∧ w23.cell? ⟨gb243, 3, none⟩ = some (.float .f64 a1_3) ∧ w23.cell? ⟨gb243, 4, none⟩ = some (.bool a1_4) ∧ w23.cell? ⟨gb243, 5, none⟩ = some (.bool a1_5) := hS_
             refine norm_ (a' := ?_) ?_ ?_
             rotate_left
             · simp only [putAll, Act.put, List.setIfInBounds_toArray, List.set_cons_zero, List.set_cons_succ]
               rfl
             refine one_ (i := 8) (N := none) #[true, true, true, true, true, true, true, true, true, false] rfl rfl (one_of HT_.out (by kernel_rfl)) (by decide) (fun K hK => ?_)
             have hs24 : w23.cell? ⟨gb256, 0, none⟩ = some (.string (⟨#[]⟩ : ByteArray)) := (blk_cell BK256.out 0).trans rfl
             have hfs24 := blk_frozen BK256.out 0
             have hns24_0 := NB242_256.out
             have hns24_1 := NB243_256.out
             have hns24_3 := NB257_256.out
             have hms24_0 := NB256_242.out
             have hms24_1 := NB256_243.out
             have hms24_3 := NB256_257.out
             have hs25 : w23.cell? ⟨gb256, 1, none⟩ = some (.int .i64 0) := (blk_cell BK256.out 1).trans rfl
             have hfs25 := blk_frozen BK256.out 1
             have hns25_0 := NB242_256.out
             have hns25_1 := NB243_256.out
             have hns25_3 := NB257_256.out
             have hms25_0 := NB256_242.out
             have hms25_1 := NB256_243.out
             have hms25_3 := NB256_257.out
             have hs26 : w23.cell? ⟨gb256, 2, none⟩ = some (.int .i64 0) := (blk_cell BK256.out 2).trans rfl
             have hfs26 := blk_frozen BK256.out 2
             have hns26_0 := NB242_256.out
             have hns26_1 := NB243_256.out
             have hns26_3 := NB257_256.out
             have hms26_0 := NB256_242.out
             have hms26_1 := NB256_243.out
             have hms26_3 := NB256_257.out
             have hs27 : w23.cell? ⟨gb256, 3, none⟩ = some (.float .f64 0) := (blk_cell BK256.out 3).trans rfl
             have hfs27 := blk_frozen BK256.out 3
             have hns27_0 := NB242_256.out
             have hns27_1 := NB243_256.out
             have hns27_3 := NB257_256.out
             have hms27_0 := NB256_242.out
             have hms27_1 := NB256_243.out
             have hms27_3 := NB256_257.out
             have hs28 : w23.cell? ⟨gb256, 4, none⟩ = some (.bool false) := (blk_cell BK256.out 4).trans rfl
             have hfs28 := blk_frozen BK256.out 4
             have hns28_0 := NB242_256.out
             have hns28_1 := NB243_256.out
             have hns28_3 := NB257_256.out
             have hms28_0 := NB256_242.out
             have hms28_1 := NB256_243.out
             have hms28_3 := NB256_257.out
             have hs29 : w23.cell? ⟨gb256, 5, none⟩ = some (.bool false) := (blk_cell BK256.out 5).trans rfl
             have hfs29 := blk_frozen BK256.out 5
             have hns29_0 := NB242_256.out
             have hns29_1 := NB243_256.out
             have hns29_3 := NB257_256.out
             have hms29_0 := NB256_242.out
             have hms29_1 := NB256_243.out
             have hms29_3 := NB256_257.out
             refine skip_ (w1 := ?_) (by rfl) rfl ?_ ?_
             rotate_left
             · go_simp
               rfl
             refine hK.out _ _ ⟨((cell_far (p := ⟨gb256, _, none⟩) NB242_256.out _).trans (((cell_far (p := ⟨gb256, _, none⟩) NB242_256.out _).trans (((cell_far (p := ⟨gb256, _, none⟩) NB242_256.out _).trans (((cell_far (p := ⟨gb256, _, none⟩) NB242_256.out _).trans (((cell_far (p := ⟨gb256, _, none⟩) NB242_256.out _).trans (((cell_far (p := ⟨gb256, _, none⟩) NB242_256.out _).trans (hHeld.1)))))))))))), ((cell_far (p := ⟨gb256, _, none⟩) NB242_256.out _).trans (((cell_far (p := ⟨gb256, _, none⟩) NB242_256.out _).trans (((cell_far (p := ⟨gb256, _, none⟩) NB242_256.out _).trans (((cell_far (p := ⟨gb256, _, none⟩) NB242_256.out _).trans (((cell_far (p := ⟨gb256, _, none⟩) NB242_256.out _).trans (((cell_far (p := ⟨gb256, _, none⟩) NB242_256.out _).trans (hHeld.2.1)))))))))))), ((cell_far (p := ⟨gb256, _, none⟩) NB242_256.out _).trans (((cell_far (p := ⟨gb256, _, none⟩) NB242_256.out _).trans (((cell_far (p := ⟨gb256, _, none⟩) NB242_256.out _).trans (((cell_far (p := ⟨gb256, _, none⟩) NB242_256.out _).trans (((cell_far (p := ⟨gb256, _, none⟩) NB242_256.out _).trans (((cell_far (p := ⟨gb256, _, none⟩) NB242_256.out _).trans (hHeld.2.2.1)))))))))))), ((cell_far (p := ⟨gb256, _, none⟩) NB242_256.out _).trans (((cell_far (p := ⟨gb256, _, none⟩) NB242_256.out _).trans (((cell_far (p := ⟨gb256, _, none⟩) NB242_256.out _).trans (((cell_far (p := ⟨gb256, _, none⟩) NB242_256.out _).trans (((cell_far (p := ⟨gb256, _, none⟩) NB242_256.out _).trans (((cell_far (p := ⟨gb256, _, none⟩) NB242_256.out _).trans (hHeld.2.2.2.1)))))))))))), ((cell_far (p := ⟨gb256, _, none⟩) NB242_256.out _).trans (((cell_far (p := ⟨gb256, _, none⟩) NB242_256.out _).trans (((cell_far (p := ⟨gb256, _, none⟩) NB242_256.out _).trans (((cell_far (p := ⟨gb256, _, none⟩) NB242_256.out _).trans (((cell_far (p := ⟨gb256, _, none⟩) NB242_256.out _).trans (((cell_far (p := ⟨gb256, _, none⟩) NB242_256.out _).trans (hHeld.2.2.2.2.1)))))))))))), ((cell_far (p := ⟨gb256, _, none⟩) NB242_256.out _).trans (((cell_far (p := ⟨gb256, _, none⟩) NB242_256.out _).trans (((cell_far (p := ⟨gb256, _, none⟩) NB242_256.out _).trans (((cell_far (p := ⟨gb256, _, none⟩) NB242_256.out _).trans (((cell_far (p := ⟨gb256, _, none⟩) NB242_256.out _).trans (((cell_far (p := ⟨gb256, _, none⟩) NB242_256.out _).trans (hHeld.2.2.2.2.2.1)))))))))))), ((cell_far (p := ⟨gb256, _, none⟩) NB243_256.out _).trans (((cell_far (p := ⟨gb256, _, none⟩) NB243_256.out _).trans (((cell_far (p := ⟨gb256, _, none⟩) NB243_256.out _).trans (((cell_far (p := ⟨gb256, _, none⟩) NB243_256.out _).trans (((cell_far (p := ⟨gb256, _, none⟩) NB243_256.out _).trans (((cell_far (p := ⟨gb256, _, none⟩) NB243_256.out _).trans (hHeld.2.2.2.2.2.2.1)))))))))))), ((cell_far (p := ⟨gb256, _, none⟩) NB243_256.out _).trans (((cell_far (p := ⟨gb256, _, none⟩) NB243_256.out _).trans (((cell_far (p := ⟨gb256, _, none⟩) NB243_256.out _).trans (((cell_far (p := ⟨gb256, _, none⟩) NB243_256.out _).trans (((cell_far (p := ⟨gb256, _, none⟩) NB243_256.out _).trans (((cell_far (p := ⟨gb256, _, none⟩) NB243_256.out _).trans (hHeld.2.2.2.2.2.2.2.1)))))))))))), ((cell_far (p := ⟨gb256, _, none⟩) NB243_256.out _).trans (((cell_far (p := ⟨gb256, _, none⟩) NB243_256.out _).trans (((cell_far (p := ⟨gb256, _, none⟩) NB243_256.out _).trans (((cell_far (p := ⟨gb256, _, none⟩) NB243_256.out _).trans (((cell_far (p := ⟨gb256, _, none⟩) NB243_256.out _).trans (((cell_far (p := ⟨gb256, _, none⟩) NB243_256.out _).trans (hHeld.2.2.2.2.2.2.2.2.1)))))))))))), ((cell_far (p := ⟨gb256, _, none⟩) NB243_256.out _).trans (((cell_far (p := ⟨gb256, _, none⟩) NB243_256.out _).trans (((cell_far (p := ⟨gb256, _, none⟩) NB243_256.out _).trans (((cell_far (p := ⟨gb256, _, none⟩) NB243_256.out _).trans (((cell_far (p := ⟨gb256, _, none⟩) NB243_256.out _).trans (((cell_far (p := ⟨gb256, _, none⟩) NB243_256.out _).trans (hHeld.2.2.2.2.2.2.2.2.2.1)))))))))))), ((cell_far (p := ⟨gb256, _, none⟩) NB243_256.out _).trans (((cell_far (p := ⟨gb256, _, none⟩) NB243_256.out _).trans (((cell_far (p := ⟨gb256, _, none⟩) NB243_256.out _).trans (((cell_far (p := ⟨gb256, _, none⟩) NB243_256.out _).trans (((cell_far (p := ⟨gb256, _, none⟩) NB243_256.out _).trans (((cell_far (p := ⟨gb256, _, none⟩) NB243_256.out _).trans (hHeld.2.2.2.2.2.2.2.2.2.2.1)))))))))))), ((cell_far (p := ⟨gb256, _, none⟩) NB243_256.out _).trans (((cell_far (p := ⟨gb256, _, none⟩) NB243_256.out _).trans (((cell_far (p := ⟨gb256, _, none⟩) NB243_256.out _).trans (((cell_far (p := ⟨gb256, _, none⟩) NB243_256.out _).trans (((cell_far (p := ⟨gb256, _, none⟩) NB243_256.out _).trans (((cell_far (p := ⟨gb256, _, none⟩) NB243_256.out _).trans (hHeld.2.2.2.2.2.2.2.2.2.2.2))))))))))))⟩ (fun hHeld => ?_)
             clear hK K
             refine one_ (i := 9) (N := none) #[true, true, true, true, true, true, true, true, true, true] rfl rfl (one_of HT_.out (by kernel_rfl)) (by decide) (fun K hK => ?_)
             have hs30 : w23.cell? ⟨gb257, 0, none⟩ = some (.string (⟨#[]⟩ : ByteArray)) := (blk_cell BK257.out 0).trans rfl
             have hfs30 := blk_frozen BK257.out 0
             have hns30_0 := NB242_257.out
             have hns30_1 := NB243_257.out
             have hns30_2 := NB256_257.out
             have hms30_0 := NB257_242.out
             have hms30_1 := NB257_243.out
             have hms30_2 := NB257_256.out
             have hs31 : w23.cell? ⟨gb257, 1, none⟩ = some (.int .i64 0) := (blk_cell BK257.out 1).trans rfl
             have hfs31 := blk_frozen BK257.out 1
             have hns31_0 := NB242_257.out
             have hns31_1 := NB243_257.out
             have hns31_2 := NB256_257.out
             have hms31_0 := NB257_242.out
             have hms31_1 := NB257_243.out
             have hms31_2 := NB257_256.out
             have hs32 : w23.cell? ⟨gb257, 2, none⟩ = some (.int .i64 0) := (blk_cell BK257.out 2).trans rfl
             have hfs32 := blk_frozen BK257.out 2
             have hns32_0 := NB242_257.out
             have hns32_1 := NB243_257.out
             have hns32_2 := NB256_257.out
             have hms32_0 := NB257_242.out
             have hms32_1 := NB257_243.out
             have hms32_2 := NB257_256.out
             have hs33 : w23.cell? ⟨gb257, 3, none⟩ = some (.float .f64 0) := (blk_cell BK257.out 3).trans rfl
             have hfs33 := blk_frozen BK257.out 3
             have hns33_0 := NB242_257.out
             have hns33_1 := NB243_257.out
             have hns33_2 := NB256_257.out
             have hms33_0 := NB257_242.out
             have hms33_1 := NB257_243.out
             have hms33_2 := NB257_256.out
             have hs34 : w23.cell? ⟨gb257, 4, none⟩ = some (.bool false) := (blk_cell BK257.out 4).trans rfl
             have hfs34 := blk_frozen BK257.out 4
             have hns34_0 := NB242_257.out
             have hns34_1 := NB243_257.out
             have hns34_2 := NB256_257.out
             have hms34_0 := NB257_242.out
             have hms34_1 := NB257_243.out
             have hms34_2 := NB257_256.out
             have hs35 : w23.cell? ⟨gb257, 5, none⟩ = some (.bool false) := (blk_cell BK257.out 5).trans rfl
             have hfs35 := blk_frozen BK257.out 5
             have hns35_0 := NB242_257.out
             have hns35_1 := NB243_257.out
             have hns35_2 := NB256_257.out
             have hms35_0 := NB257_242.out
             have hms35_1 := NB257_243.out
             have hms35_2 := NB257_256.out
             refine skip_ (w1 := ?_) (by rfl) rfl ?_ ?_
             rotate_left
             · go_simp
               rfl
             refine hK.out _ _ ⟨((cell_far (p := ⟨gb257, _, none⟩) NB242_257.out _).trans (((cell_far (p := ⟨gb257, _, none⟩) NB242_257.out _).trans (((cell_far (p := ⟨gb257, _, none⟩) NB242_257.out _).trans (((cell_far (p := ⟨gb257, _, none⟩) NB242_257.out _).trans (((cell_far (p := ⟨gb257, _, none⟩) NB242_257.out _).trans (((cell_far (p := ⟨gb257, _, none⟩) NB242_257.out _).trans (hHeld.1)))))))))))), ((cell_far (p := ⟨gb257, _, none⟩) NB242_257.out _).trans (((cell_far (p := ⟨gb257, _, none⟩) NB242_257.out _).trans (((cell_far (p := ⟨gb257, _, none⟩) NB242_257.out _).trans (((cell_far (p := ⟨gb257, _, none⟩) NB242_257.out _).trans (((cell_far (p := ⟨gb257, _, none⟩) NB242_257.out _).trans (((cell_far (p := ⟨gb257, _, none⟩) NB242_257.out _).trans (hHeld.2.1)))))))))))), ((cell_far (p := ⟨gb257, _, none⟩) NB242_257.out _).trans (((cell_far (p := ⟨gb257, _, none⟩) NB242_257.out _).trans (((cell_far (p := ⟨gb257, _, none⟩) NB242_257.out _).trans (((cell_far (p := ⟨gb257, _, none⟩) NB242_257.out _).trans (((cell_far (p := ⟨gb257, _, none⟩) NB242_257.out _).trans (((cell_far (p := ⟨gb257, _, none⟩) NB242_257.out _).trans (hHeld.2.2.1)))))))))))), ((cell_far (p := ⟨gb257, _, none⟩) NB242_257.out _).trans (((cell_far (p := ⟨gb257, _, none⟩) NB242_257.out _).trans (((cell_far (p := ⟨gb257, _, none⟩) NB242_257.out _).trans (((cell_far (p := ⟨gb257, _, none⟩) NB242_257.out _).trans (((cell_far (p := ⟨gb257, _, none⟩) NB242_257.out _).trans (((cell_far (p := ⟨gb257, _, none⟩) NB242_257.out _).trans (hHeld.2.2.2.1)))))))))))), ((cell_far (p := ⟨gb257, _, none⟩) NB242_257.out _).trans (((cell_far (p := ⟨gb257, _, none⟩) NB242_257.out _).trans (((cell_far (p := ⟨gb257, _, none⟩) NB242_257.out _).trans (((cell_far (p := ⟨gb257, _, none⟩) NB242_257.out _).trans (((cell_far (p := ⟨gb257, _, none⟩) NB242_257.out _).trans (((cell_far (p := ⟨gb257, _, none⟩) NB242_257.out _).trans (hHeld.2.2.2.2.1)))))))))))), ((cell_far (p := ⟨gb257, _, none⟩) NB242_257.out _).trans (((cell_far (p := ⟨gb257, _, none⟩) NB242_257.out _).trans (((cell_far (p := ⟨gb257, _, none⟩) NB242_257.out _).trans (((cell_far (p := ⟨gb257, _, none⟩) NB242_257.out _).trans (((cell_far (p := ⟨gb257, _, none⟩) NB242_257.out _).trans (((cell_far (p := ⟨gb257, _, none⟩) NB242_257.out _).trans (hHeld.2.2.2.2.2.1)))))))))))), ((cell_far (p := ⟨gb257, _, none⟩) NB243_257.out _).trans (((cell_far (p := ⟨gb257, _, none⟩) NB243_257.out _).trans (((cell_far (p := ⟨gb257, _, none⟩) NB243_257.out _).trans (((cell_far (p := ⟨gb257, _, none⟩) NB243_257.out _).trans (((cell_far (p := ⟨gb257, _, none⟩) NB243_257.out _).trans (((cell_far (p := ⟨gb257, _, none⟩) NB243_257.out _).trans (hHeld.2.2.2.2.2.2.1)))))))))))), ((cell_far (p := ⟨gb257, _, none⟩) NB243_257.out _).trans (((cell_far (p := ⟨gb257, _, none⟩) NB243_257.out _).trans (((cell_far (p := ⟨gb257, _, none⟩) NB243_257.out _).trans (((cell_far (p := ⟨gb257, _, none⟩) NB243_257.out _).trans (((cell_far (p := ⟨gb257, _, none⟩) NB243_257.out _).trans (((cell_far (p := ⟨gb257, _, none⟩) NB243_257.out _).trans (hHeld.2.2.2.2.2.2.2.1)))))))))))), ((cell_far (p := ⟨gb257, _, none⟩) NB243_257.out _).trans (((cell_far (p := ⟨gb257, _, none⟩) NB243_257.out _).trans (((cell_far (p := ⟨gb257, _, none⟩) NB243_257.out _).trans (((cell_far (p := ⟨gb257, _, none⟩) NB243_257.out _).trans (((cell_far (p := ⟨gb257, _, none⟩) NB243_257.out _).trans (((cell_far (p := ⟨gb257, _, none⟩) NB243_257.out _).trans (hHeld.2.2.2.2.2.2.2.2.1)))))))))))), ((cell_far (p := ⟨gb257, _, none⟩) NB243_257.out _).trans (((cell_far (p := ⟨gb257, _, none⟩) NB243_257.out _).trans (((cell_far (p := ⟨gb257, _, none⟩) NB243_257.out _).trans (((cell_far (p := ⟨gb257, _, none⟩) NB243_257.out _).trans (((cell_far (p := ⟨gb257, _, none⟩) NB243_257.out _).trans (((cell_far (p := ⟨gb257, _, none⟩) NB243_257.out _).trans (hHeld.2.2.2.2.2.2.2.2.2.1)))))))))))), ((cell_far (p := ⟨gb257, _, none⟩) NB243_257.out _).trans (((cell_far (p := ⟨gb257, _, none⟩) NB243_257.out _).trans (((cell_far (p := ⟨gb257, _, none⟩) NB243_257.out _).trans (((cell_far (p := ⟨gb257, _, none⟩) NB243_257.out _).trans (((cell_far (p := ⟨gb257, _, none⟩) NB243_257.out _).trans (((cell_far (p := ⟨gb257, _, none⟩) NB243_257.out _).trans (hHeld.2.2.2.2.2.2.2.2.2.2.1)))))))))))), ((cell_far (p := ⟨gb257, _, none⟩) NB243_257.out _).trans (((cell_far (p := ⟨gb257, _, none⟩) NB243_257.out _).trans (((cell_far (p := ⟨gb257, _, none⟩) NB243_257.out _).trans (((cell_far (p := ⟨gb257, _, none⟩) NB243_257.out _).trans (((cell_far (p := ⟨gb257, _, none⟩) NB243_257.out _).trans (((cell_far (p := ⟨gb257, _, none⟩) NB243_257.out _).trans (hHeld.2.2.2.2.2.2.2.2.2.2.2))))))))))))⟩ (fun hHeld => ?_)
             clear hK K
             refine done_ (done_of HT_.out (by kernel_rfl)) ?_
             try go_wp2
             have n0_ : Aside0 (((((((((((((w23.setCell ⟨gb256, 0, none⟩ (.string t244)).setCell ⟨gb256, 1, none⟩ (.int .i64 t245)).setCell ⟨gb256, 2, none⟩ (.int .i64 t246)).setCell ⟨gb256, 3, none⟩ (.float .f64 t247)).setCell ⟨gb256, 4, none⟩ (.bool t248)).setCell ⟨gb256, 5, none⟩ (.bool t249)).setCell ⟨gb257, 0, none⟩ (.string t250)).setCell ⟨gb257, 1, none⟩ (.int .i64 t251)).setCell ⟨gb257, 2, none⟩ (.int .i64 t252)).setCell ⟨gb257, 3, none⟩ (.float .f64 t253)).setCell ⟨gb257, 4, none⟩ (.bool t254)).setCell ⟨gb257, 5, none⟩ (.bool t255)).heap[gb242]? = some (.cells #[.string a0_0, .int .i64 a0_1, .int .i64 a0_2, .float .f64 a0_3, .bool a0_4, .bool a0_5] 24 (0, 0))) := ⟨by (with_reducible repeat (first | refine blk_drewN ?_ _ | refine blk_drew ?_ | refine blk_alloc ?_ _)); refine blk_far ?_ NB242_257.out _; (with_reducible repeat (first | refine blk_drewN ?_ _ | refine blk_drew ?_ | refine blk_alloc ?_ _)); refine blk_far ?_ NB242_257.out _; (with_reducible repeat (first | refine blk_drewN ?_ _ | refine blk_drew ?_ | refine blk_alloc ?_ _)); refine blk_far ?_ NB242_257.out _; (with_reducible repeat (first | refine blk_drewN ?_ _ | refine blk_drew ?_ | refine blk_alloc ?_ _)); refine blk_far ?_ NB242_257.out _; (with_reducible repeat (first | refine blk_drewN ?_ _ | refine blk_drew ?_ | refine blk_alloc ?_ _)); refine blk_far ?_ NB242_257.out _; (with_reducible repeat (first | refine blk_drewN ?_ _ | refine blk_drew ?_ | refine blk_alloc ?_ _)); refine blk_far ?_ NB242_257.out _; (with_reducible repeat (first | refine blk_drewN ?_ _ | refine blk_drew ?_ | refine blk_alloc ?_ _)); refine blk_far ?_ NB242_256.out _; (with_reducible repeat (first | refine blk_drewN ?_ _ | refine blk_drew ?_ | refine blk_alloc ?_ _)); refine blk_far ?_ NB242_256.out _; (with_reducible repeat (first | refine blk_drewN ?_ _ | refine blk_drew ?_ | refine blk_alloc ?_ _)); refine blk_far ?_ NB242_256.out _; (with_reducible repeat (first | refine blk_drewN ?_ _ | refine blk_drew ?_ | refine blk_alloc ?_ _)); refine blk_far ?_ NB242_256.out _; (with_reducible repeat (first | refine blk_drewN ?_ _ | refine blk_drew ?_ | refine blk_alloc ?_ _)); refine blk_far ?_ NB242_256.out _; (with_reducible repeat (first | refine blk_drewN ?_ _ | refine blk_drew ?_ | refine blk_alloc ?_ _)); refine blk_far ?_ NB242_256.out _; (with_reducible repeat (first | refine blk_drewN ?_ _ | refine blk_drew ?_ | refine blk_alloc ?_ _)); exact BK242.out⟩
             have n1_ : Aside0 (((((((((((((w23.setCell ⟨gb256, 0, none⟩ (.string t244)).setCell ⟨gb256, 1, none⟩ (.int .i64 t245)).setCell ⟨gb256, 2, none⟩ (.int .i64 t246)).setCell ⟨gb256, 3, none⟩ (.float .f64 t247)).setCell ⟨gb256, 4, none⟩ (.bool t248)).setCell ⟨gb256, 5, none⟩ (.bool t249)).setCell ⟨gb257, 0, none⟩ (.string t250)).setCell ⟨gb257, 1, none⟩ (.int .i64 t251)).setCell ⟨gb257, 2, none⟩ (.int .i64 t252)).setCell ⟨gb257, 3, none⟩ (.float .f64 t253)).setCell ⟨gb257, 4, none⟩ (.bool t254)).setCell ⟨gb257, 5, none⟩ (.bool t255)).heap[gb243]? = some (.cells #[.string a1_0, .int .i64 a1_1, .int .i64 a1_2, .float .f64 a1_3, .bool a1_4, .bool a1_5] 24 (0, 0))) := ⟨by (with_reducible repeat (first | refine blk_drewN ?_ _ | refine blk_drew ?_ | refine blk_alloc ?_ _)); refine blk_far ?_ NB243_257.out _; (with_reducible repeat (first | refine blk_drewN ?_ _ | refine blk_drew ?_ | refine blk_alloc ?_ _)); refine blk_far ?_ NB243_257.out _; (with_reducible repeat (first | refine blk_drewN ?_ _ | refine blk_drew ?_ | refine blk_alloc ?_ _)); refine blk_far ?_ NB243_257.out _; (with_reducible repeat (first | refine blk_drewN ?_ _ | refine blk_drew ?_ | refine blk_alloc ?_ _)); refine blk_far ?_ NB243_257.out _; (with_reducible repeat (first | refine blk_drewN ?_ _ | refine blk_drew ?_ | refine blk_alloc ?_ _)); refine blk_far ?_ NB243_257.out _; (with_reducible repeat (first | refine blk_drewN ?_ _ | refine blk_drew ?_ | refine blk_alloc ?_ _)); refine blk_far ?_ NB243_257.out _; (with_reducible repeat (first | refine blk_drewN ?_ _ | refine blk_drew ?_ | refine blk_alloc ?_ _)); refine blk_far ?_ NB243_256.out _; (with_reducible repeat (first | refine blk_drewN ?_ _ | refine blk_drew ?_ | refine blk_alloc ?_ _)); refine blk_far ?_ NB243_256.out _; (with_reducible repeat (first | refine blk_drewN ?_ _ | refine blk_drew ?_ | refine blk_alloc ?_ _)); refine blk_far ?_ NB243_256.out _; (with_reducible repeat (first | refine blk_drewN ?_ _ | refine blk_drew ?_ | refine blk_alloc ?_ _)); refine blk_far ?_ NB243_256.out _; (with_reducible repeat (first | refine blk_drewN ?_ _ | refine blk_drew ?_ | refine blk_alloc ?_ _)); refine blk_far ?_ NB243_256.out _; (with_reducible repeat (first | refine blk_drewN ?_ _ | refine blk_drew ?_ | refine blk_alloc ?_ _)); refine blk_far ?_ NB243_256.out _; (with_reducible repeat (first | refine blk_drewN ?_ _ | refine blk_drew ?_ | refine blk_alloc ?_ _)); exact BK243.out⟩
             have n2_ : Aside0 (((((((((((((w23.setCell ⟨gb256, 0, none⟩ (.string t244)).setCell ⟨gb256, 1, none⟩ (.int .i64 t245)).setCell ⟨gb256, 2, none⟩ (.int .i64 t246)).setCell ⟨gb256, 3, none⟩ (.float .f64 t247)).setCell ⟨gb256, 4, none⟩ (.bool t248)).setCell ⟨gb256, 5, none⟩ (.bool t249)).setCell ⟨gb257, 0, none⟩ (.string t250)).setCell ⟨gb257, 1, none⟩ (.int .i64 t251)).setCell ⟨gb257, 2, none⟩ (.int .i64 t252)).setCell ⟨gb257, 3, none⟩ (.float .f64 t253)).setCell ⟨gb257, 4, none⟩ (.bool t254)).setCell ⟨gb257, 5, none⟩ (.bool t255)).heap[gb256]? = some (.cells #[.string t244, .int .i64 t245, .int .i64 t246, .float .f64 t247, .bool t248, .bool t249] 24 (0, 0))) := ⟨by (with_reducible repeat (first | refine blk_drewN ?_ _ | refine blk_drew ?_ | refine blk_alloc ?_ _)); refine blk_far ?_ NB256_257.out _; (with_reducible repeat (first | refine blk_drewN ?_ _ | refine blk_drew ?_ | refine blk_alloc ?_ _)); refine blk_far ?_ NB256_257.out _; (with_reducible repeat (first | refine blk_drewN ?_ _ | refine blk_drew ?_ | refine blk_alloc ?_ _)); refine blk_far ?_ NB256_257.out _; (with_reducible repeat (first | refine blk_drewN ?_ _ | refine blk_drew ?_ | refine blk_alloc ?_ _)); refine blk_far ?_ NB256_257.out _; (with_reducible repeat (first | refine blk_drewN ?_ _ | refine blk_drew ?_ | refine blk_alloc ?_ _)); refine blk_far ?_ NB256_257.out _; (with_reducible repeat (first | refine blk_drewN ?_ _ | refine blk_drew ?_ | refine blk_alloc ?_ _)); refine blk_far ?_ NB256_257.out _; (with_reducible repeat (first | refine blk_drewN ?_ _ | refine blk_drew ?_ | refine blk_alloc ?_ _)); refine blk_put (cs := #[.string t244, .int .i64 t245, .int .i64 t246, .float .f64 t247, .bool t248, .bool false]) ?_ 5 _ rfl; (with_reducible repeat (first | refine blk_drewN ?_ _ | refine blk_drew ?_ | refine blk_alloc ?_ _)); refine blk_put (cs := #[.string t244, .int .i64 t245, .int .i64 t246, .float .f64 t247, .bool false, .bool false]) ?_ 4 _ rfl; (with_reducible repeat (first | refine blk_drewN ?_ _ | refine blk_drew ?_ | refine blk_alloc ?_ _)); refine blk_put (cs := #[.string t244, .int .i64 t245, .int .i64 t246, .float .f64 0, .bool false, .bool false]) ?_ 3 _ rfl; (with_reducible repeat (first | refine blk_drewN ?_ _ | refine blk_drew ?_ | refine blk_alloc ?_ _)); refine blk_put (cs := #[.string t244, .int .i64 t245, .int .i64 0, .float .f64 0, .bool false, .bool false]) ?_ 2 _ rfl; (with_reducible repeat (first | refine blk_drewN ?_ _ | refine blk_drew ?_ | refine blk_alloc ?_ _)); refine blk_put (cs := #[.string t244, .int .i64 0, .int .i64 0, .float .f64 0, .bool false, .bool false]) ?_ 1 _ rfl; (with_reducible repeat (first | refine blk_drewN ?_ _ | refine blk_drew ?_ | refine blk_alloc ?_ _)); refine blk_put (cs := #[.string (⟨#[]⟩ : ByteArray), .int .i64 0, .int .i64 0, .float .f64 0, .bool false, .bool false]) ?_ 0 _ rfl; (with_reducible repeat (first | refine blk_drewN ?_ _ | refine blk_drew ?_ | refine blk_alloc ?_ _)); exact BK256.out⟩
             have n3_ : Aside0 (((((((((((((w23.setCell ⟨gb256, 0, none⟩ (.string t244)).setCell ⟨gb256, 1, none⟩ (.int .i64 t245)).setCell ⟨gb256, 2, none⟩ (.int .i64 t246)).setCell ⟨gb256, 3, none⟩ (.float .f64 t247)).setCell ⟨gb256, 4, none⟩ (.bool t248)).setCell ⟨gb256, 5, none⟩ (.bool t249)).setCell ⟨gb257, 0, none⟩ (.string t250)).setCell ⟨gb257, 1, none⟩ (.int .i64 t251)).setCell ⟨gb257, 2, none⟩ (.int .i64 t252)).setCell ⟨gb257, 3, none⟩ (.float .f64 t253)).setCell ⟨gb257, 4, none⟩ (.bool t254)).setCell ⟨gb257, 5, none⟩ (.bool t255)).heap[gb257]? = some (.cells #[.string t250, .int .i64 t251, .int .i64 t252, .float .f64 t253, .bool t254, .bool t255] 24 (0, 0))) := ⟨by (with_reducible repeat (first | refine blk_drewN ?_ _ | refine blk_drew ?_ | refine blk_alloc ?_ _)); refine blk_put (cs := #[.string t250, .int .i64 t251, .int .i64 t252, .float .f64 t253, .bool t254, .bool false]) ?_ 5 _ rfl; (with_reducible repeat (first | refine blk_drewN ?_ _ | refine blk_drew ?_ | refine blk_alloc ?_ _)); refine blk_put (cs := #[.string t250, .int .i64 t251, .int .i64 t252, .float .f64 t253, .bool false, .bool false]) ?_ 4 _ rfl; (with_reducible repeat (first | refine blk_drewN ?_ _ | refine blk_drew ?_ | refine blk_alloc ?_ _)); refine blk_put (cs := #[.string t250, .int .i64 t251, .int .i64 t252, .float .f64 0, .bool false, .bool false]) ?_ 3 _ rfl; (with_reducible repeat (first | refine blk_drewN ?_ _ | refine blk_drew ?_ | refine blk_alloc ?_ _)); refine blk_put (cs := #[.string t250, .int .i64 t251, .int .i64 0, .float .f64 0, .bool false, .bool false]) ?_ 2 _ rfl; (with_reducible repeat (first | refine blk_drewN ?_ _ | refine blk_drew ?_ | refine blk_alloc ?_ _)); refine blk_put (cs := #[.string t250, .int .i64 0, .int .i64 0, .float .f64 0, .bool false, .bool false]) ?_ 1 _ rfl; (with_reducible repeat (first | refine blk_drewN ?_ _ | refine blk_drew ?_ | refine blk_alloc ?_ _)); refine blk_put (cs := #[.string (⟨#[]⟩ : ByteArray), .int .i64 0, .int .i64 0, .float .f64 0, .bool false, .bool false]) ?_ 0 _ rfl; (with_reducible repeat (first | refine blk_drewN ?_ _ | refine blk_drew ?_ | refine blk_alloc ?_ _)); refine blk_far ?_ NB257_256.out _; (with_reducible repeat (first | refine blk_drewN ?_ _ | refine blk_drew ?_ | refine blk_alloc ?_ _)); refine blk_far ?_ NB257_256.out _; (with_reducible repeat (first | refine blk_drewN ?_ _ | refine blk_drew ?_ | refine blk_alloc ?_ _)); refine blk_far ?_ NB257_256.out _; (with_reducible repeat (first | refine blk_drewN ?_ _ | refine blk_drew ?_ | refine blk_alloc ?_ _)); refine blk_far ?_ NB257_256.out _; (with_reducible repeat (first | refine blk_drewN ?_ _ | refine blk_drew ?_ | refine blk_alloc ?_ _)); refine blk_far ?_ NB257_256.out _; (with_reducible repeat (first | refine blk_drewN ?_ _ | refine blk_drew ?_ | refine blk_alloc ?_ _)); refine blk_far ?_ NB257_256.out _; (with_reducible repeat (first | refine blk_drewN ?_ _ | refine blk_drew ?_ | refine blk_alloc ?_ _)); exact BK257.out⟩
             have n4_ : Aside0 (Below w.heap.size w ((((((((((((w23.setCell ⟨gb256, 0, none⟩ (.string t244)).setCell ⟨gb256, 1, none⟩ (.int .i64 t245)).setCell ⟨gb256, 2, none⟩ (.int .i64 t246)).setCell ⟨gb256, 3, none⟩ (.float .f64 t247)).setCell ⟨gb256, 4, none⟩ (.bool t248)).setCell ⟨gb256, 5, none⟩ (.bool t249)).setCell ⟨gb257, 0, none⟩ (.string t250)).setCell ⟨gb257, 1, none⟩ (.int .i64 t251)).setCell ⟨gb257, 2, none⟩ (.int .i64 t252)).setCell ⟨gb257, 3, none⟩ (.float .f64 t253)).setCell ⟨gb257, 4, none⟩ (.bool t254)).setCell ⟨gb257, 5, none⟩ (.bool t255))) := ⟨by repeat (first | (with_reducible first | exact HB.out | apply below_alloc | apply pw_below_drewN | apply below_drew1 | refine below_set ?_ GE242.out | refine below_set ?_ GE243.out | refine below_set ?_ GE256.out | refine below_set ?_ GE257.out) | exact HB.out)⟩
             (try clear BK242)
             (try clear BK243)
             (try clear BK256)
             (try clear BK257)
             (try clear HB)
             generalize ((((((((((((w23.setCell ⟨gb256, 0, none⟩ (.string t244)).setCell ⟨gb256, 1, none⟩ (.int .i64 t245)).setCell ⟨gb256, 2, none⟩ (.int .i64 t246)).setCell ⟨gb256, 3, none⟩ (.float .f64 t247)).setCell ⟨gb256, 4, none⟩ (.bool t248)).setCell ⟨gb256, 5, none⟩ (.bool t249)).setCell ⟨gb257, 0, none⟩ (.string t250)).setCell ⟨gb257, 1, none⟩ (.int .i64 t251)).setCell ⟨gb257, 2, none⟩ (.int .i64 t252)).setCell ⟨gb257, 3, none⟩ (.float .f64 t253)).setCell ⟨gb257, 4, none⟩ (.bool t254)).setCell ⟨gb257, 5, none⟩ (.bool t255)) = w36 at n0_ n1_ n2_ n3_ n4_ ⊢
             have BK242 := n0_
             have BK243 := n1_
             have BK256 := n2_
             have BK257 := n3_
             have HB := n4_
             clear n0_ n1_ n2_ n3_ n4_
             have n0_ := Aside0.mk (blk_drew BK242.out)
             have n1_ := Aside0.mk (blk_drew BK243.out)
             have n2_ := Aside0.mk (blk_drew BK256.out)
             have n3_ := Aside0.mk (blk_drew BK257.out)
             have n4_ := Aside0.mk (below_drew1 HB.out)
             clear BK242
             clear BK243
             clear BK256
             clear BK257
             clear HB
             have BK242 := n0_
             have BK243 := n1_
             have BK256 := n2_
             have BK257 := n3_
             have HB := n4_
             clear n0_ n1_ n2_ n3_ n4_
             refine start_ (n := 25) (S := fun w' => w'.cell? ⟨gb256, 0, none⟩ = some (.string t244) ∧ w'.cell? ⟨gb256, 1, none⟩ = some (.int .i64 t245) ∧ w'.cell? ⟨gb256, 2, none⟩ = some (.int .i64 t246) ∧ w'.cell? ⟨gb256, 3, none⟩ = some (.float .f64 t247) ∧ w'.cell? ⟨gb256, 4, none⟩ = some (.bool t248) ∧ w'.cell? ⟨gb256, 5, none⟩ = some (.bool t249) ∧ w'.cell? ⟨gb257, 0, none⟩ = some (.string t250) ∧ w'.cell? ⟨gb257, 1, none⟩ = some (.int .i64 t251) ∧ w'.cell? ⟨gb257, 2, none⟩ = some (.int .i64 t252) ∧ w'.cell? ⟨gb257, 3, none⟩ = some (.float .f64 t253) ∧ w'.cell? ⟨gb257, 4, none⟩ = some (.bool t254) ∧ w'.cell? ⟨gb257, 5, none⟩ = some (.bool t255)) (ds := []) #[false, false, false, false, false, false, false, false, false, false, false, false, false, false, false, false, false, false, false, false, false, false, false, false, false] (by kernel_rfl) rfl rfl ⟨(blk_cell BK256.out 0).trans rfl, (blk_cell BK256.out 1).trans rfl, (blk_cell BK256.out 2).trans rfl, (blk_cell BK256.out 3).trans rfl, (blk_cell BK256.out 4).trans rfl, (blk_cell BK256.out 5).trans rfl, (blk_cell BK257.out 0).trans rfl, (blk_cell BK257.out 1).trans rfl, (blk_cell BK257.out 2).trans rfl, (blk_cell BK257.out 3).trans rfl, (blk_cell BK257.out 4).trans rfl, (blk_cell BK257.out 5).trans rfl⟩ (fun hHeld => ?_); refine with_tabW turncocklaw16_RuleSame.tab2 turncocklaw16_RuleSame.bits2 (fun HT_ HW_ => ?_)
             generalize w36.drew = w37 at BK242 BK243 BK256 BK257 HB hHeld ⊢
             refine take_ (i := 0) (N := some 17) (v := ?_) (a' := ?_) #[true, false, false, false, false, false, false, false, false, false, false, false, false, false, false, false, false, false, false, false, false, false, false, false, false] rfl rfl (take_ofW HT_.out HW_.out (by kernel_rfl)) (fun _ _ _ h => h) (Or.inl ⟨by rfl, ?_⟩) hHeld ?_ ?_
             rotate_left
             · rintro w' ⟨s0, s1, s2, s3, s4, s5, s6, s7, s8, s9, s10, s11⟩
               go_simp
               (first | with_reducible rfl | (rw [if_neg (by first | omega | (simp only [ByteArray.size_append] at *; omega) | (have hl_ : ∀ l_ : List UInt8, (⟨l_.toArray⟩ : ByteArray).size = l_.length := (fun l_ => by show l_.toArray.size = _; simp); simp only [ByteArray.size_append, hl_, List.length_cons, List.length_nil] at *; omega))]))
             rotate_left
             · simp only [Act.put, List.setIfInBounds_toArray, List.set_cons_zero, List.set_cons_succ, i64_w, i32_w]
               rfl
             refine take_ (i := 1) (N := some 18) (v := ?_) (a' := ?_) #[true, true, false, false, false, false, false, false, false, false, false, false, false, false, false, false, false, false, false, false, false, false, false, false, false] rfl rfl (take_ofW HT_.out HW_.out (by kernel_rfl)) (fun _ _ _ h => h) (Or.inl ⟨by rfl, ?_⟩) hHeld ?_ ?_
             rotate_left
             · rintro w' ⟨s0, s1, s2, s3, s4, s5, s6, s7, s8, s9, s10, s11⟩
               go_simp
               (first | with_reducible rfl | (rw [if_neg (by first | omega | (simp only [ByteArray.size_append] at *; omega) | (have hl_ : ∀ l_ : List UInt8, (⟨l_.toArray⟩ : ByteArray).size = l_.length := (fun l_ => by show l_.toArray.size = _; simp); simp only [ByteArray.size_append, hl_, List.length_cons, List.length_nil] at *; omega))]))
             rotate_left
             · simp only [Act.put, List.setIfInBounds_toArray, List.set_cons_zero, List.set_cons_succ, i64_w, i32_w]
               rfl
             refine take_ (i := 3) (N := some 20) (v := ?_) (a' := ?_) #[true, true, false, true, false, false, false, false, false, false, false, false, false, false, false, false, false, false, false, false, false, false, false, false, false] rfl rfl (take_ofW HT_.out HW_.out (by kernel_rfl)) (fun _ _ _ h => h) (Or.inl ⟨by rfl, ?_⟩) hHeld ?_ ?_
             rotate_left
             · rintro w' ⟨s0, s1, s2, s3, s4, s5, s6, s7, s8, s9, s10, s11⟩
               go_simp
               (first | with_reducible rfl | (rw [if_neg (by first | omega | (simp only [ByteArray.size_append] at *; omega) | (have hl_ : ∀ l_ : List UInt8, (⟨l_.toArray⟩ : ByteArray).size = l_.length := (fun l_ => by show l_.toArray.size = _; simp); simp only [ByteArray.size_append, hl_, List.length_cons, List.length_nil] at *; omega))]))
             rotate_left
             · simp only [Act.put, List.setIfInBounds_toArray, List.set_cons_zero, List.set_cons_succ, i64_w, i32_w]
               rfl
             refine take_ (i := 4) (N := some 21) (v := ?_) (a' := ?_) #[true, true, false, true, true, false, false, false, false, false, false, false, false, false, false, false, false, false, false, false, false, false, false, false, false] rfl rfl (take_ofW HT_.out HW_.out (by kernel_rfl)) (fun _ _ _ h => h) (Or.inl ⟨by rfl, ?_⟩) hHeld ?_ ?_
             rotate_left
             · rintro w' ⟨s0, s1, s2, s3, s4, s5, s6, s7, s8, s9, s10, s11⟩
               go_simp
               (first | with_reducible rfl | (rw [if_neg (by first | omega | (simp only [ByteArray.size_append] at *; omega) | (have hl_ : ∀ l_ : List UInt8, (⟨l_.toArray⟩ : ByteArray).size = l_.length := (fun l_ => by show l_.toArray.size = _; simp); simp only [ByteArray.size_append, hl_, List.length_cons, List.length_nil] at *; omega))]))
             rotate_left
             · simp only [Act.put, List.setIfInBounds_toArray, List.set_cons_zero, List.set_cons_succ, i64_w, i32_w]
               rfl
             refine one_ (i := 2) (N := some 19) #[true, true, true, true, true, false, false, false, false, false, false, false, false, false, false, false, false, false, false, false, false, false, false, false, false] rfl rfl (one_of HT_.out (by kernel_rfl)) (by decide) (fun K hK => ?_)
             refine goes_ Try.func11 (by kernel_rfl) rfl #[.agg #[.string t244, .int .i64 t245, .int .i64 t246, .float .f64 t247, .bool t248, .bool t249], .agg #[.string t250, .int .i64 t251, .int .i64 t252, .float .f64 t253, .bool t254, .bool t255]] (by rfl) rfl rfl (by (try simp only [List.map_toArray, List.map_cons, List.map_nil]); first | done | rfl | (simp only [List.length_drop, List.length_take]; rfl)) ?_
             with_reducible refine (rule_Same.calls t244 t245 t246 t247 t248 t249 t250 t251 t252 t253 t254 t255 t258 _ A7.out).mono ?_
             rintro e w38 ⟨rfl, hb⟩
             refine ⟨_, rfl, ?_⟩
             have n0_ := Aside0.mk (blk_below (g := gb242) (o := .cells #[.string a0_0, .int .i64 a0_1, .int .i64 a0_2, .float .f64 a0_3, .bool a0_4, .bool a0_5] 24 (0, 0)) (by (with_reducible repeat (first | refine blk_drewN ?_ _ | refine blk_drew ?_ | refine blk_alloc ?_ _)); exact BK242.out) hb)
             have n1_ := Aside0.mk (blk_below (g := gb243) (o := .cells #[.string a1_0, .int .i64 a1_1, .int .i64 a1_2, .float .f64 a1_3, .bool a1_4, .bool a1_5] 24 (0, 0)) (by (with_reducible repeat (first | refine blk_drewN ?_ _ | refine blk_drew ?_ | refine blk_alloc ?_ _)); exact BK243.out) hb)
             have n2_ := Aside0.mk (blk_below (g := gb256) (o := .cells #[.string t244, .int .i64 t245, .int .i64 t246, .float .f64 t247, .bool t248, .bool t249] 24 (0, 0)) (by (with_reducible repeat (first | refine blk_drewN ?_ _ | refine blk_drew ?_ | refine blk_alloc ?_ _)); exact BK256.out) hb)
             have n3_ := Aside0.mk (blk_below (g := gb257) (o := .cells #[.string t250, .int .i64 t251, .int .i64 t252, .float .f64 t253, .bool t254, .bool t255] 24 (0, 0)) (by (with_reducible repeat (first | refine blk_drewN ?_ _ | refine blk_drew ?_ | refine blk_alloc ?_ _)); exact BK257.out) hb)
             have n4_ := Aside0.mk (below_step (by repeat (first | (with_reducible first | exact HB.out | apply below_alloc | apply pw_below_drewN | apply below_drew1 | refine below_set ?_ GE242.out | refine below_set ?_ GE243.out | refine below_set ?_ GE256.out | refine below_set ?_ GE257.out) | exact HB.out)) hb)
             clear BK242
             clear BK243
             clear BK256
             clear BK257
             clear HB
             have BK242 := n0_
             have BK243 := n1_
             have BK256 := n2_
             have BK257 := n3_
             have HB := n4_
             clear n0_ n1_ n2_ n3_ n4_
             (try clear hb)
             (try clear hb2)
             (try clear hk)
             (try clear hi)
             refine hK.out _ _ ⟨(blk_cell BK256.out 0).trans rfl, (blk_cell BK256.out 1).trans rfl, (blk_cell BK256.out 2).trans rfl, (blk_cell BK256.out 3).trans rfl, (blk_cell BK256.out 4).trans rfl, (blk_cell BK256.out 5).trans rfl, (blk_cell BK257.out 0).trans rfl, (blk_cell BK257.out 1).trans rfl, (blk_cell BK257.out 2).trans rfl, (blk_cell BK257.out 3).trans rfl, (blk_cell BK257.out 4).trans rfl, (blk_cell BK257.out 5).trans rfl⟩ (fun hHeld => ?_)
             clear hK K
             refine norm_ (a' := ?_) ?_ ?_
             rotate_left
             · show Act.put _ (some 19) _ = _
               simp only [Act.put, List.setIfInBounds_toArray, List.set_cons_zero, List.set_cons_succ, i64_w, i32_w]
               rfl
             refine one_ (i := 5) (N := some 22) #[true, true, true, true, true, true, false, false, false, false, false, false, false, false, false, false, false, false, false, false, false, false, false, false, false] rfl rfl (one_of HT_.out (by kernel_rfl)) (by decide) (fun K hK => ?_)
             refine goes_ Try.func12 (by kernel_rfl) rfl #[.agg #[.string t244, .int .i64 t245, .int .i64 t246, .float .f64 t247, .bool t248, .bool t249], .agg #[.string t250, .int .i64 t251, .int .i64 t252, .float .f64 t253, .bool t254, .bool t255]] (by rfl) rfl rfl (by (try simp only [List.map_toArray, List.map_cons, List.map_nil]); first | done | rfl | (simp only [List.length_drop, List.length_take]; rfl)) ?_
             with_reducible refine (turncockref15_SameRule.calls k t244 t245 t246 t247 t248 t249 t250 t251 t252 t253 t254 t255 t259 _ A8.out).mono ?_
             rintro e w39 ⟨rfl, hb⟩
             refine ⟨_, rfl, ?_⟩
             have n0_ := Aside0.mk (blk_below (g := gb242) (o := .cells #[.string a0_0, .int .i64 a0_1, .int .i64 a0_2, .float .f64 a0_3, .bool a0_4, .bool a0_5] 24 (0, 0)) (by (with_reducible repeat (first | refine blk_drewN ?_ _ | refine blk_drew ?_ | refine blk_alloc ?_ _)); exact BK242.out) hb)
             have n1_ := Aside0.mk (blk_below (g := gb243) (o := .cells #[.string a1_0, .int .i64 a1_1, .int .i64 a1_2, .float .f64 a1_3, .bool a1_4, .bool a1_5] 24 (0, 0)) (by (with_reducible repeat (first | refine blk_drewN ?_ _ | refine blk_drew ?_ | refine blk_alloc ?_ _)); exact BK243.out) hb)
             have n2_ := Aside0.mk (blk_below (g := gb256) (o := .cells #[.string t244, .int .i64 t245, .int .i64 t246, .float .f64 t247, .bool t248, .bool t249] 24 (0, 0)) (by (with_reducible repeat (first | refine blk_drewN ?_ _ | refine blk_drew ?_ | refine blk_alloc ?_ _)); exact BK256.out) hb)
             have n3_ := Aside0.mk (blk_below (g := gb257) (o := .cells #[.string t250, .int .i64 t251, .int .i64 t252, .float .f64 t253, .bool t254, .bool t255] 24 (0, 0)) (by (with_reducible repeat (first | refine blk_drewN ?_ _ | refine blk_drew ?_ | refine blk_alloc ?_ _)); exact BK257.out) hb)
             have n4_ := Aside0.mk (below_step (by repeat (first | (with_reducible first | exact HB.out | apply below_alloc | apply pw_below_drewN | apply below_drew1 | refine below_set ?_ GE242.out | refine below_set ?_ GE243.out | refine below_set ?_ GE256.out | refine below_set ?_ GE257.out) | exact HB.out)) hb)
             clear BK242
             clear BK243
             clear BK256
             clear BK257
             clear HB
             have BK242 := n0_
             have BK243 := n1_
             have BK256 := n2_
             have BK257 := n3_
             have HB := n4_
             clear n0_ n1_ n2_ n3_ n4_
             (try clear hb)
             (try clear hb2)
             (try clear hk)
             (try clear hi)
             refine hK.out _ _ ⟨(blk_cell BK256.out 0).trans rfl, (blk_cell BK256.out 1).trans rfl, (blk_cell BK256.out 2).trans rfl, (blk_cell BK256.out 3).trans rfl, (blk_cell BK256.out 4).trans rfl, (blk_cell BK256.out 5).trans rfl, (blk_cell BK257.out 0).trans rfl, (blk_cell BK257.out 1).trans rfl, (blk_cell BK257.out 2).trans rfl, (blk_cell BK257.out 3).trans rfl, (blk_cell BK257.out 4).trans rfl, (blk_cell BK257.out 5).trans rfl⟩ (fun hHeld => ?_)
             clear hK K
             refine norm_ (a' := ?_) ?_ ?_
             rotate_left
             · show Act.put _ (some 22) _ = _
               simp only [Act.put, List.setIfInBounds_toArray, List.set_cons_zero, List.set_cons_succ, i64_w, i32_w]
               rfl
             refine pure_ (i := 6) (N := some 23) (v := ?_) (a' := ?_) #[true, true, true, true, true, true, true, false, false, false, false, false, false, false, false, false, false, false, false, false, false, false, false, false, false] rfl rfl (any_of HT_.out (by kernel_rfl)) (fun _ _ _ h => h) (Or.inl ⟨by rfl, ?_⟩) ?_ ?_
             rotate_left
             · intro w'
               go_simp
               (first | with_reducible rfl | (rw [if_neg (by first | omega | (simp only [ByteArray.size_append] at *; omega) | (have hl_ : ∀ l_ : List UInt8, (⟨l_.toArray⟩ : ByteArray).size = l_.length := (fun l_ => by show l_.toArray.size = _; simp); simp only [ByteArray.size_append, hl_, List.length_cons, List.length_nil] at *; omega))]))
             rotate_left
             · simp only [Act.put, List.setIfInBounds_toArray, List.set_cons_zero, List.set_cons_succ, i64_w, i32_w]
               rfl
             refine pure_ (i := 7) (N := some 24) (v := ?_) (a' := ?_) #[true, true, true, true, true, true, true, true, false, false, false, false, false, false, false, false, false, false, false, false, false, false, false, false, false] rfl rfl (any_of HT_.out (by kernel_rfl)) (fun _ _ _ h => h) (Or.inl ⟨by rfl, ?_⟩) ?_ ?_
             rotate_left
             · intro w'
               go_simp
               (first | with_reducible rfl | (rw [if_neg (by first | omega | (simp only [ByteArray.size_append] at *; omega) | (have hl_ : ∀ l_ : List UInt8, (⟨l_.toArray⟩ : ByteArray).size = l_.length := (fun l_ => by show l_.toArray.size = _; simp); simp only [ByteArray.size_append, hl_, List.length_cons, List.length_nil] at *; omega))]))
             rotate_left
             · simp only [Act.put, List.setIfInBounds_toArray, List.set_cons_zero, List.set_cons_succ, i64_w, i32_w]
               rfl
             refine take_ (i := 8) (N := some 25) (v := ?_) (a' := ?_) #[true, true, true, true, true, true, true, true, true, false, false, false, false, false, false, false, false, false, false, false, false, false, false, false, false] rfl rfl (take_ofW HT_.out HW_.out (by kernel_rfl)) (fun _ _ _ h => h) (Or.inl ⟨by rfl, ?_⟩) hHeld ?_ ?_
             rotate_left
             · rintro w' ⟨s0, s1, s2, s3, s4, s5, s6, s7, s8, s9, s10, s11⟩
               go_simp
               (first | with_reducible rfl | (rw [if_neg (by first | omega | (simp only [ByteArray.size_append] at *; omega) | (have hl_ : ∀ l_ : List UInt8, (⟨l_.toArray⟩ : ByteArray).size = l_.length := (fun l_ => by show l_.toArray.size = _; simp); simp only [ByteArray.size_append, hl_, List.length_cons, List.length_nil] at *; omega))]))
             rotate_left
             · simp only [Act.put, List.setIfInBounds_toArray, List.set_cons_zero, List.set_cons_succ, i64_w, i32_w]
               rfl
             refine take_ (i := 9) (N := some 26) (v := ?_) (a' := ?_) #[true, true, true, true, true, true, true, true, true, true, false, false, false, false, false, false, false, false, false, false, false, false, false, false, false] rfl rfl (take_ofW HT_.out HW_.out (by kernel_rfl)) (fun _ _ _ h => h) (Or.inl ⟨by rfl, ?_⟩) hHeld ?_ ?_
             rotate_left
             · rintro w' ⟨s0, s1, s2, s3, s4, s5, s6, s7, s8, s9, s10, s11⟩
               go_simp
               (first | with_reducible rfl | (rw [if_neg (by first | omega | (simp only [ByteArray.size_append] at *; omega) | (have hl_ : ∀ l_ : List UInt8, (⟨l_.toArray⟩ : ByteArray).size = l_.length := (fun l_ => by show l_.toArray.size = _; simp); simp only [ByteArray.size_append, hl_, List.length_cons, List.length_nil] at *; omega))]))
             rotate_left
             · simp only [Act.put, List.setIfInBounds_toArray, List.set_cons_zero, List.set_cons_succ, i64_w, i32_w]
               rfl
             refine one_ (i := 10) (N := some 27) #[true, true, true, true, true, true, true, true, true, true, true, false, false, false, false, false, false, false, false, false, false, false, false, false, false] rfl rfl (one_of HT_.out (by kernel_rfl)) (by decide) (fun K hK => ?_)
             refine goes_ Try.func11 (by kernel_rfl) rfl #[.agg #[.string t244, .int .i64 t245, .int .i64 t246, .float .f64 t247, .bool t248, .bool t249], .agg #[.string t244, .int .i64 t245, .int .i64 t246, .float .f64 t247, .bool t248, .bool t249]] (by rfl) rfl rfl (by (try simp only [List.map_toArray, List.map_cons, List.map_nil]); first | done | rfl | (simp only [List.length_drop, List.length_take]; rfl)) ?_
             with_reducible refine (rule_Same.calls t244 t245 t246 t247 t248 t249 t244 t245 t246 t247 t248 t249 true _ A10.out).mono ?_
             rintro e w40 ⟨rfl, hb⟩
             refine ⟨_, rfl, ?_⟩
             have n0_ := Aside0.mk (blk_below (g := gb242) (o := .cells #[.string a0_0, .int .i64 a0_1, .int .i64 a0_2, .float .f64 a0_3, .bool a0_4, .bool a0_5] 24 (0, 0)) (by (with_reducible repeat (first | refine blk_drewN ?_ _ | refine blk_drew ?_ | refine blk_alloc ?_ _)); exact BK242.out) hb)
             have n1_ := Aside0.mk (blk_below (g := gb243) (o := .cells #[.string a1_0, .int .i64 a1_1, .int .i64 a1_2, .float .f64 a1_3, .bool a1_4, .bool a1_5] 24 (0, 0)) (by (with_reducible repeat (first | refine blk_drewN ?_ _ | refine blk_drew ?_ | refine blk_alloc ?_ _)); exact BK243.out) hb)
             have n2_ := Aside0.mk (blk_below (g := gb256) (o := .cells #[.string t244, .int .i64 t245, .int .i64 t246, .float .f64 t247, .bool t248, .bool t249] 24 (0, 0)) (by (with_reducible repeat (first | refine blk_drewN ?_ _ | refine blk_drew ?_ | refine blk_alloc ?_ _)); exact BK256.out) hb)
             have n3_ := Aside0.mk (blk_below (g := gb257) (o := .cells #[.string t250, .int .i64 t251, .int .i64 t252, .float .f64 t253, .bool t254, .bool t255] 24 (0, 0)) (by (with_reducible repeat (first | refine blk_drewN ?_ _ | refine blk_drew ?_ | refine blk_alloc ?_ _)); exact BK257.out) hb)
             have n4_ := Aside0.mk (below_step (by repeat (first | (with_reducible first | exact HB.out | apply below_alloc | apply pw_below_drewN | apply below_drew1 | refine below_set ?_ GE242.out | refine below_set ?_ GE243.out | refine below_set ?_ GE256.out | refine below_set ?_ GE257.out) | exact HB.out)) hb)
             clear BK242
             clear BK243
             clear BK256
             clear BK257
             clear HB
             have BK242 := n0_
             have BK243 := n1_
             have BK256 := n2_
             have BK257 := n3_
             have HB := n4_
             clear n0_ n1_ n2_ n3_ n4_
             (try clear hb)
             (try clear hb2)
             (try clear hk)
             (try clear hi)
             refine hK.out _ _ ⟨(blk_cell BK256.out 0).trans rfl, (blk_cell BK256.out 1).trans rfl, (blk_cell BK256.out 2).trans rfl, (blk_cell BK256.out 3).trans rfl, (blk_cell BK256.out 4).trans rfl, (blk_cell BK256.out 5).trans rfl, (blk_cell BK257.out 0).trans rfl, (blk_cell BK257.out 1).trans rfl, (blk_cell BK257.out 2).trans rfl, (blk_cell BK257.out 3).trans rfl, (blk_cell BK257.out 4).trans rfl, (blk_cell BK257.out 5).trans rfl⟩ (fun hHeld => ?_)
             clear hK K
             refine norm_ (a' := ?_) ?_ ?_
             rotate_left
             · show Act.put _ (some 27) _ = _
               simp only [Act.put, List.setIfInBounds_toArray, List.set_cons_zero, List.set_cons_succ, i64_w, i32_w]
               rfl
             refine pure_ (i := 11) (N := some 28) (v := ?_) (a' := ?_) #[true, true, true, true, true, true, true, true, true, true, true, true, false, false, false, false, false, false, false, false, false, false, false, false, false] rfl rfl (any_of HT_.out (by kernel_rfl)) (fun _ _ _ h => h) (Or.inl ⟨by rfl, ?_⟩) ?_ ?_
             rotate_left
             · intro w'
               go_simp
               (first | with_reducible rfl | (rw [if_neg (by first | omega | (simp only [ByteArray.size_append] at *; omega) | (have hl_ : ∀ l_ : List UInt8, (⟨l_.toArray⟩ : ByteArray).size = l_.length := (fun l_ => by show l_.toArray.size = _; simp); simp only [ByteArray.size_append, hl_, List.length_cons, List.length_nil] at *; omega))]))
             rotate_left
             · simp only [Act.put, List.setIfInBounds_toArray, List.set_cons_zero, List.set_cons_succ, i64_w, i32_w]
               rfl
             refine pure_ (i := 12) (N := some 29) (v := ?_) (a' := ?_) #[true, true, true, true, true, true, true, true, true, true, true, true, true, false, false, false, false, false, false, false, false, false, false, false, false] rfl rfl (any_of HT_.out (by kernel_rfl)) (fun _ _ _ h => h) (Or.inl ⟨by rfl, ?_⟩) ?_ ?_
             rotate_left
             · intro w'
               go_simp
               (first | with_reducible rfl | (rw [if_neg (by first | omega | (simp only [ByteArray.size_append] at *; omega) | (have hl_ : ∀ l_ : List UInt8, (⟨l_.toArray⟩ : ByteArray).size = l_.length := (fun l_ => by show l_.toArray.size = _; simp); simp only [ByteArray.size_append, hl_, List.length_cons, List.length_nil] at *; omega))]))
             rotate_left
             · simp only [Act.put, List.setIfInBounds_toArray, List.set_cons_zero, List.set_cons_succ, i64_w, i32_w]
               rfl
             refine take_ (i := 13) (N := some 30) (v := ?_) (a' := ?_) #[true, true, true, true, true, true, true, true, true, true, true, true, true, true, false, false, false, false, false, false, false, false, false, false, false] rfl rfl (take_ofW HT_.out HW_.out (by kernel_rfl)) (fun _ _ _ h => h) (Or.inl ⟨by rfl, ?_⟩) hHeld ?_ ?_
             rotate_left
             · rintro w' ⟨s0, s1, s2, s3, s4, s5, s6, s7, s8, s9, s10, s11⟩
               go_simp
               (first | with_reducible rfl | (rw [if_neg (by first | omega | (simp only [ByteArray.size_append] at *; omega) | (have hl_ : ∀ l_ : List UInt8, (⟨l_.toArray⟩ : ByteArray).size = l_.length := (fun l_ => by show l_.toArray.size = _; simp); simp only [ByteArray.size_append, hl_, List.length_cons, List.length_nil] at *; omega))]))
             rotate_left
             · simp only [Act.put, List.setIfInBounds_toArray, List.set_cons_zero, List.set_cons_succ, i64_w, i32_w]
               rfl
             refine take_ (i := 14) (N := some 31) (v := ?_) (a' := ?_) #[true, true, true, true, true, true, true, true, true, true, true, true, true, true, true, false, false, false, false, false, false, false, false, false, false] rfl rfl (take_ofW HT_.out HW_.out (by kernel_rfl)) (fun _ _ _ h => h) (Or.inl ⟨by rfl, ?_⟩) hHeld ?_ ?_
             rotate_left
             · rintro w' ⟨s0, s1, s2, s3, s4, s5, s6, s7, s8, s9, s10, s11⟩
               go_simp
               (first | with_reducible rfl | (rw [if_neg (by first | omega | (simp only [ByteArray.size_append] at *; omega) | (have hl_ : ∀ l_ : List UInt8, (⟨l_.toArray⟩ : ByteArray).size = l_.length := (fun l_ => by show l_.toArray.size = _; simp); simp only [ByteArray.size_append, hl_, List.length_cons, List.length_nil] at *; omega))]))
             rotate_left
             · simp only [Act.put, List.setIfInBounds_toArray, List.set_cons_zero, List.set_cons_succ, i64_w, i32_w]
               rfl
             refine take_ (i := 16) (N := some 33) (v := ?_) (a' := ?_) #[true, true, true, true, true, true, true, true, true, true, true, true, true, true, true, false, true, false, false, false, false, false, false, false, false] rfl rfl (take_ofW HT_.out HW_.out (by kernel_rfl)) (fun _ _ _ h => h) (Or.inl ⟨by rfl, ?_⟩) hHeld ?_ ?_
             rotate_left
             · rintro w' ⟨s0, s1, s2, s3, s4, s5, s6, s7, s8, s9, s10, s11⟩
               go_simp
               (first | with_reducible rfl | (rw [if_neg (by first | omega | (simp only [ByteArray.size_append] at *; omega) | (have hl_ : ∀ l_ : List UInt8, (⟨l_.toArray⟩ : ByteArray).size = l_.length := (fun l_ => by show l_.toArray.size = _; simp); simp only [ByteArray.size_append, hl_, List.length_cons, List.length_nil] at *; omega))]))
             rotate_left
             · simp only [Act.put, List.setIfInBounds_toArray, List.set_cons_zero, List.set_cons_succ, i64_w, i32_w]
               rfl
             refine take_ (i := 17) (N := some 34) (v := ?_) (a' := ?_) #[true, true, true, true, true, true, true, true, true, true, true, true, true, true, true, false, true, true, false, false, false, false, false, false, false] rfl rfl (take_ofW HT_.out HW_.out (by kernel_rfl)) (fun _ _ _ h => h) (Or.inl ⟨by rfl, ?_⟩) hHeld ?_ ?_
             rotate_left
             · rintro w' ⟨s0, s1, s2, s3, s4, s5, s6, s7, s8, s9, s10, s11⟩
               go_simp
               (first | with_reducible rfl | (rw [if_neg (by first | omega | (simp only [ByteArray.size_append] at *; omega) | (have hl_ : ∀ l_ : List UInt8, (⟨l_.toArray⟩ : ByteArray).size = l_.length := (fun l_ => by show l_.toArray.size = _; simp); simp only [ByteArray.size_append, hl_, List.length_cons, List.length_nil] at *; omega))]))
             rotate_left
             · simp only [Act.put, List.setIfInBounds_toArray, List.set_cons_zero, List.set_cons_succ, i64_w, i32_w]
               rfl
             refine one_ (i := 15) (N := some 32) #[true, true, true, true, true, true, true, true, true, true, true, true, true, true, true, true, true, true, false, false, false, false, false, false, false] rfl rfl (one_of HT_.out (by kernel_rfl)) (by decide) (fun K hK => ?_)
             refine goes_ Try.func11 (by kernel_rfl) rfl #[.agg #[.string t250, .int .i64 t251, .int .i64 t252, .float .f64 t253, .bool t254, .bool t255], .agg #[.string t244, .int .i64 t245, .int .i64 t246, .float .f64 t247, .bool t248, .bool t249]] (by rfl) rfl rfl (by (try simp only [List.map_toArray, List.map_cons, List.map_nil]); first | done | rfl | (simp only [List.length_drop, List.length_take]; rfl)) ?_
             with_reducible refine (rule_Same.calls t250 t251 t252 t253 t254 t255 t244 t245 t246 t247 t248 t249 t261 _ A12.out).mono ?_
             rintro e w41 ⟨rfl, hb⟩
             refine ⟨_, rfl, ?_⟩
             have n0_ := Aside0.mk (blk_below (g := gb242) (o := .cells #[.string a0_0, .int .i64 a0_1, .int .i64 a0_2, .float .f64 a0_3, .bool a0_4, .bool a0_5] 24 (0, 0)) (by (with_reducible repeat (first | refine blk_drewN ?_ _ | refine blk_drew ?_ | refine blk_alloc ?_ _)); exact BK242.out) hb)
             have n1_ := Aside0.mk (blk_below (g := gb243) (o := .cells #[.string a1_0, .int .i64 a1_1, .int .i64 a1_2, .float .f64 a1_3, .bool a1_4, .bool a1_5] 24 (0, 0)) (by (with_reducible repeat (first | refine blk_drewN ?_ _ | refine blk_drew ?_ | refine blk_alloc ?_ _)); exact BK243.out) hb)
             have n2_ := Aside0.mk (blk_below (g := gb256) (o := .cells #[.string t244, .int .i64 t245, .int .i64 t246, .float .f64 t247, .bool t248, .bool t249] 24 (0, 0)) (by (with_reducible repeat (first | refine blk_drewN ?_ _ | refine blk_drew ?_ | refine blk_alloc ?_ _)); exact BK256.out) hb)
             have n3_ := Aside0.mk (blk_below (g := gb257) (o := .cells #[.string t250, .int .i64 t251, .int .i64 t252, .float .f64 t253, .bool t254, .bool t255] 24 (0, 0)) (by (with_reducible repeat (first | refine blk_drewN ?_ _ | refine blk_drew ?_ | refine blk_alloc ?_ _)); exact BK257.out) hb)
             have n4_ := Aside0.mk (below_step (by repeat (first | (with_reducible first | exact HB.out | apply below_alloc | apply pw_below_drewN | apply below_drew1 | refine below_set ?_ GE242.out | refine below_set ?_ GE243.out | refine below_set ?_ GE256.out | refine below_set ?_ GE257.out) | exact HB.out)) hb)
             clear BK242
             clear BK243
             clear BK256
             clear BK257
             clear HB
             have BK242 := n0_
             have BK243 := n1_
             have BK256 := n2_
             have BK257 := n3_
             have HB := n4_
             clear n0_ n1_ n2_ n3_ n4_
             (try clear hb)
             (try clear hb2)
             (try clear hk)
             (try clear hi)
             refine hK.out _ _ ⟨(blk_cell BK256.out 0).trans rfl, (blk_cell BK256.out 1).trans rfl, (blk_cell BK256.out 2).trans rfl, (blk_cell BK256.out 3).trans rfl, (blk_cell BK256.out 4).trans rfl, (blk_cell BK256.out 5).trans rfl, (blk_cell BK257.out 0).trans rfl, (blk_cell BK257.out 1).trans rfl, (blk_cell BK257.out 2).trans rfl, (blk_cell BK257.out 3).trans rfl, (blk_cell BK257.out 4).trans rfl, (blk_cell BK257.out 5).trans rfl⟩ (fun hHeld => ?_)
             clear hK K
             refine norm_ (a' := ?_) ?_ ?_
             rotate_left
             · show Act.put _ (some 32) _ = _
               simp only [Act.put, List.setIfInBounds_toArray, List.set_cons_zero, List.set_cons_succ, i64_w, i32_w]
               rfl
             refine one_ (i := 18) (N := some 35) #[true, true, true, true, true, true, true, true, true, true, true, true, true, true, true, true, true, true, true, false, false, false, false, false, false] rfl rfl (one_of HT_.out (by kernel_rfl)) (by decide) (fun K hK => ?_)
             refine goes_ Try.func11 (by kernel_rfl) rfl #[.agg #[.string t244, .int .i64 t245, .int .i64 t246, .float .f64 t247, .bool t248, .bool t249], .agg #[.string t250, .int .i64 t251, .int .i64 t252, .float .f64 t253, .bool t254, .bool t255]] (by rfl) rfl rfl (by (try simp only [List.map_toArray, List.map_cons, List.map_nil]); first | done | rfl | (simp only [List.length_drop, List.length_take]; rfl)) ?_
             with_reducible refine (rule_Same.calls t244 t245 t246 t247 t248 t249 t250 t251 t252 t253 t254 t255 t262 _ A13.out).mono ?_
             rintro e w42 ⟨rfl, hb⟩
             refine ⟨_, rfl, ?_⟩
             have n0_ := Aside0.mk (blk_below (g := gb242) (o := .cells #[.string a0_0, .int .i64 a0_1, .int .i64 a0_2, .float .f64 a0_3, .bool a0_4, .bool a0_5] 24 (0, 0)) (by (with_reducible repeat (first | refine blk_drewN ?_ _ | refine blk_drew ?_ | refine blk_alloc ?_ _)); exact BK242.out) hb)
             have n1_ := Aside0.mk (blk_below (g := gb243) (o := .cells #[.string a1_0, .int .i64 a1_1, .int .i64 a1_2, .float .f64 a1_3, .bool a1_4, .bool a1_5] 24 (0, 0)) (by (with_reducible repeat (first | refine blk_drewN ?_ _ | refine blk_drew ?_ | refine blk_alloc ?_ _)); exact BK243.out) hb)
             have n2_ := Aside0.mk (blk_below (g := gb256) (o := .cells #[.string t244, .int .i64 t245, .int .i64 t246, .float .f64 t247, .bool t248, .bool t249] 24 (0, 0)) (by (with_reducible repeat (first | refine blk_drewN ?_ _ | refine blk_drew ?_ | refine blk_alloc ?_ _)); exact BK256.out) hb)
             have n3_ := Aside0.mk (blk_below (g := gb257) (o := .cells #[.string t250, .int .i64 t251, .int .i64 t252, .float .f64 t253, .bool t254, .bool t255] 24 (0, 0)) (by (with_reducible repeat (first | refine blk_drewN ?_ _ | refine blk_drew ?_ | refine blk_alloc ?_ _)); exact BK257.out) hb)
             have n4_ := Aside0.mk (below_step (by repeat (first | (with_reducible first | exact HB.out | apply below_alloc | apply pw_below_drewN | apply below_drew1 | refine below_set ?_ GE242.out | refine below_set ?_ GE243.out | refine below_set ?_ GE256.out | refine below_set ?_ GE257.out) | exact HB.out)) hb)
             clear BK242
             clear BK243
             clear BK256
             clear BK257
             clear HB
             have BK242 := n0_
             have BK243 := n1_
             have BK256 := n2_
             have BK257 := n3_
             have HB := n4_
             clear n0_ n1_ n2_ n3_ n4_
             (try clear hb)
             (try clear hb2)
             (try clear hk)
             (try clear hi)
             refine hK.out _ _ ⟨(blk_cell BK256.out 0).trans rfl, (blk_cell BK256.out 1).trans rfl, (blk_cell BK256.out 2).trans rfl, (blk_cell BK256.out 3).trans rfl, (blk_cell BK256.out 4).trans rfl, (blk_cell BK256.out 5).trans rfl, (blk_cell BK257.out 0).trans rfl, (blk_cell BK257.out 1).trans rfl, (blk_cell BK257.out 2).trans rfl, (blk_cell BK257.out 3).trans rfl, (blk_cell BK257.out 4).trans rfl, (blk_cell BK257.out 5).trans rfl⟩ (fun hHeld => ?_)
             clear hK K
             refine norm_ (a' := ?_) ?_ ?_
             rotate_left
             · show Act.put _ (some 35) _ = _
               simp only [Act.put, List.setIfInBounds_toArray, List.set_cons_zero, List.set_cons_succ, i64_w, i32_w]
               rfl
             refine pure_ (i := 19) (N := some 36) (v := ?_) (a' := ?_) #[true, true, true, true, true, true, true, true, true, true, true, true, true, true, true, true, true, true, true, true, false, false, false, false, false] rfl rfl (any_of HT_.out (by kernel_rfl)) (fun _ _ _ h => h) (Or.inl ⟨by rfl, ?_⟩) ?_ ?_
             rotate_left
             · intro w'
               go_simp
               (first | with_reducible rfl | (rw [if_neg (by first | omega | (simp only [ByteArray.size_append] at *; omega) | (have hl_ : ∀ l_ : List UInt8, (⟨l_.toArray⟩ : ByteArray).size = l_.length := (fun l_ => by show l_.toArray.size = _; simp); simp only [ByteArray.size_append, hl_, List.length_cons, List.length_nil] at *; omega))]))
             rotate_left
             · simp only [Act.put, List.setIfInBounds_toArray, List.set_cons_zero, List.set_cons_succ, i64_w, i32_w]
               rfl
             refine pure_ (i := 20) (N := some 37) (v := ?_) (a' := ?_) #[true, true, true, true, true, true, true, true, true, true, true, true, true, true, true, true, true, true, true, true, true, false, false, false, false] rfl rfl (any_of HT_.out (by kernel_rfl)) (fun _ _ _ h => h) (Or.inl ⟨by rfl, ?_⟩) ?_ ?_
             rotate_left
             · intro w'
               go_simp
               (first | with_reducible rfl | (rw [if_neg (by first | omega | (simp only [ByteArray.size_append] at *; omega) | (have hl_ : ∀ l_ : List UInt8, (⟨l_.toArray⟩ : ByteArray).size = l_.length := (fun l_ => by show l_.toArray.size = _; simp); simp only [ByteArray.size_append, hl_, List.length_cons, List.length_nil] at *; omega))]))
             rotate_left
             · simp only [Act.put, List.setIfInBounds_toArray, List.set_cons_zero, List.set_cons_succ, i64_w, i32_w]
               rfl
             refine pure_ (i := 21) (N := some 38) (v := ?_) (a' := ?_) #[true, true, true, true, true, true, true, true, true, true, true, true, true, true, true, true, true, true, true, true, true, true, false, false, false] rfl rfl (any_of HT_.out (by kernel_rfl)) (fun _ _ _ h => h) (Or.inl ⟨by rfl, ?_⟩) ?_ ?_
             rotate_left
             · intro w'
               go_simp
               (first | with_reducible rfl | (rw [if_neg (by first | omega | (simp only [ByteArray.size_append] at *; omega) | (have hl_ : ∀ l_ : List UInt8, (⟨l_.toArray⟩ : ByteArray).size = l_.length := (fun l_ => by show l_.toArray.size = _; simp); simp only [ByteArray.size_append, hl_, List.length_cons, List.length_nil] at *; omega))]))
             rotate_left
             · simp only [Act.put, List.setIfInBounds_toArray, List.set_cons_zero, List.set_cons_succ, i64_w, i32_w]
               rfl
             refine one_ (i := 22) (N := some 39) #[true, true, true, true, true, true, true, true, true, true, true, true, true, true, true, true, true, true, true, true, true, true, true, false, false] rfl rfl (one_of HT_.out (by kernel_rfl)) (by decide) (fun K hK => ?_)
             refine goes_ Try.func13 (by kernel_rfl) rfl #[] (by rfl) rfl rfl (by (try simp only [List.map_toArray, List.map_cons, List.map_nil]); first | done | rfl | (simp only [List.length_drop, List.length_take]; rfl)) ?_
             with_reducible refine (turncocklaw16_awake.calls k  t263 _ A15.out).mono ?_
             rintro e w43 ⟨rfl, hb⟩
             refine ⟨_, rfl, ?_⟩
             have n0_ := Aside0.mk (blk_below (g := gb242) (o := .cells #[.string a0_0, .int .i64 a0_1, .int .i64 a0_2, .float .f64 a0_3, .bool a0_4, .bool a0_5] 24 (0, 0)) (by (with_reducible repeat (first | refine blk_drewN ?_ _ | refine blk_drew ?_ | refine blk_alloc ?_ _)); exact BK242.out) hb)
             have n1_ := Aside0.mk (blk_below (g := gb243) (o := .cells #[.string a1_0, .int .i64 a1_1, .int .i64 a1_2, .float .f64 a1_3, .bool a1_4, .bool a1_5] 24 (0, 0)) (by (with_reducible repeat (first | refine blk_drewN ?_ _ | refine blk_drew ?_ | refine blk_alloc ?_ _)); exact BK243.out) hb)
             have n2_ := Aside0.mk (blk_below (g := gb256) (o := .cells #[.string t244, .int .i64 t245, .int .i64 t246, .float .f64 t247, .bool t248, .bool t249] 24 (0, 0)) (by (with_reducible repeat (first | refine blk_drewN ?_ _ | refine blk_drew ?_ | refine blk_alloc ?_ _)); exact BK256.out) hb)
             have n3_ := Aside0.mk (blk_below (g := gb257) (o := .cells #[.string t250, .int .i64 t251, .int .i64 t252, .float .f64 t253, .bool t254, .bool t255] 24 (0, 0)) (by (with_reducible repeat (first | refine blk_drewN ?_ _ | refine blk_drew ?_ | refine blk_alloc ?_ _)); exact BK257.out) hb)
             have n4_ := Aside0.mk (below_step (by repeat (first | (with_reducible first | exact HB.out | apply below_alloc | apply pw_below_drewN | apply below_drew1 | refine below_set ?_ GE242.out | refine below_set ?_ GE243.out | refine below_set ?_ GE256.out | refine below_set ?_ GE257.out) | exact HB.out)) hb)
             clear BK242
             clear BK243
             clear BK256
             clear BK257
             clear HB
             have BK242 := n0_
             have BK243 := n1_
             have BK256 := n2_
             have BK257 := n3_
             have HB := n4_
             clear n0_ n1_ n2_ n3_ n4_
             (try clear hb)
             (try clear hb2)
             (try clear hk)
             (try clear hi)
             refine hK.out _ _ ⟨(blk_cell BK256.out 0).trans rfl, (blk_cell BK256.out 1).trans rfl, (blk_cell BK256.out 2).trans rfl, (blk_cell BK256.out 3).trans rfl, (blk_cell BK256.out 4).trans rfl, (blk_cell BK256.out 5).trans rfl, (blk_cell BK257.out 0).trans rfl, (blk_cell BK257.out 1).trans rfl, (blk_cell BK257.out 2).trans rfl, (blk_cell BK257.out 3).trans rfl, (blk_cell BK257.out 4).trans rfl, (blk_cell BK257.out 5).trans rfl⟩ (fun hHeld => ?_)
             clear hK K
             refine norm_ (a' := ?_) ?_ ?_
             rotate_left
             · show Act.put _ (some 39) _ = _
               simp only [Act.put, List.setIfInBounds_toArray, List.set_cons_zero, List.set_cons_succ, i64_w, i32_w]
               rfl
             refine pure_ (i := 23) (N := some 40) (v := ?_) (a' := ?_) #[true, true, true, true, true, true, true, true, true, true, true, true, true, true, true, true, true, true, true, true, true, true, true, true, false] rfl rfl (any_of HT_.out (by kernel_rfl)) (fun _ _ _ h => h) (Or.inl ⟨by rfl, ?_⟩) ?_ ?_
             rotate_left
             · intro w'
               go_simp
               (first | with_reducible rfl | (rw [if_neg (by first | omega | (simp only [ByteArray.size_append] at *; omega) | (have hl_ : ∀ l_ : List UInt8, (⟨l_.toArray⟩ : ByteArray).size = l_.length := (fun l_ => by show l_.toArray.size = _; simp); simp only [ByteArray.size_append, hl_, List.length_cons, List.length_nil] at *; omega))]))
             rotate_left
             · simp only [Act.put, List.setIfInBounds_toArray, List.set_cons_zero, List.set_cons_succ, i64_w, i32_w]
               rfl
             refine pure_ (i := 24) (N := some 8) (v := ?_) (a' := ?_) #[true, true, true, true, true, true, true, true, true, true, true, true, true, true, true, true, true, true, true, true, true, true, true, true, true] rfl rfl (any_of HT_.out (by kernel_rfl)) (fun _ _ _ h => h) (Or.inl ⟨by rfl, ?_⟩) ?_ ?_
             rotate_left
             · intro w'
               go_simp
               (first | with_reducible rfl | (rw [if_neg (by first | omega | (simp only [ByteArray.size_append] at *; omega) | (have hl_ : ∀ l_ : List UInt8, (⟨l_.toArray⟩ : ByteArray).size = l_.length := (fun l_ => by show l_.toArray.size = _; simp); simp only [ByteArray.size_append, hl_, List.length_cons, List.length_nil] at *; omega))]))
             rotate_left
             · simp only [Act.put, List.setIfInBounds_toArray, List.set_cons_zero, List.set_cons_succ, i64_w, i32_w]
               rfl
             refine done_ (done_of HT_.out (by kernel_rfl)) ?_
             try go_wp2
             go_ret
             exact ⟨by first | rfl | (simp [errW_none, errW_some] <;> rfl) | (simp [*, errW_none, errW_some] <;> rfl), by repeat (first | (with_reducible first | exact HB.out | apply below_alloc | apply pw_below_drewN | apply below_drew1 | refine below_set ?_ GE242.out | refine below_set ?_ GE243.out | refine below_set ?_ GE256.out | refine below_set ?_ GE257.out) | exact HB.out)⟩)
      · rw [if_neg c14] at H
        have c14b0 : (t261 == t262) = false := by simpa using c14
        (try (have c14b1 : decide (t261 = t262) = false := by simpa using c14))
        (try (have c14b2 : (t261 == t262) = false := by simpa using c14))
        (try (have c14b3 : ¬ (t261 = t262) := by simpa using c14))
        clear c14
        exact absurd ((Option.some.inj H).trans hr_) (by decide)
    · replace c11 := Bool.eq_false_iff.mpr c11
      subst c11
      have H1 : (some false) = some r := by rw [if_neg (show ¬ (false = true) by decide)] at H; exact H
      clear H
      have H := H1
      clear H1
      exact absurd ((Option.some.inj H).trans hr_) (by decide)
  · rw [if_neg c9] at H
    have c9b0 : (t258 == t259) = false := by simpa using c9
    (try (have c9b1 : decide (t258 = t259) = false := by simpa using c9))
    (try (have c9b2 : (t258 == t259) = false := by simpa using c9))
    (try (have c9b3 : ¬ (t258 = t259) := by simpa using c9))
    clear c9
    exact absurd ((Option.some.inj H).trans hr_) (by decide)

end Go.Proofs.Ytofebccpghkmgaa.PRuleSame
