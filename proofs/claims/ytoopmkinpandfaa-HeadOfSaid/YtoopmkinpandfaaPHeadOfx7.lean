-- WRITTEN BY THIS SESSION'S mprint.py upon the print: some functions are proved by hand
import Derived.Test.YtoopmkinpandfaaPHeadOfx0
import Derived.Test.YtoopmkinpandfaaPHeadOfx3
import Derived.Test.YtoopmkinpandfaaPHeadOfx4
import Derived.Test.YtoopmkinpandfaaPHeadOfx6
namespace Go.Proofs.Ytoopmkinpandfaa.PHeadOf
open Go.RowKit Go.Proofs.YtoopmkinpandfaaW.PrintWords Go.Proofs.YtoopmkinpandfaaW.PrintLast Go.Proofs.YtoopmkinpandfaaW.PrintMore
attribute [local go_sem] max2_int min2_int max_two min_two max_three min_three max_four min_four   -- for this text's walks alone
set_option linter.unusedVariables false
set_option linter.unusedSimpArgs false

/-! ### turncocklaw28_HeadOf: function 4 -/
def turncocklaw28_HeadOf.f (k : Nat) (l0 : List (S26)) : Option (Bool) := if (l0.length : Int) > 200 then ((turncocklaw28_awake.f k).bind fun t202 => (if t202 = true then (some true) else (if (l0.length : Int) ≤ 200 then ((head_Of.f k l0).bind fun t203 => ((turncockref26_Heads.f k l0).bind fun t206 => ((turncockref1_SameHeads.f k t203 t206).bind fun t209 => (if t209 = true then ((turncocklaw28_awake.f k).bind fun t210 => (some t210)) else (some false))))) else (some false)))) else (if (l0.length : Int) ≤ 200 then ((head_Of.f k l0).bind fun t211 => ((turncockref26_Heads.f k l0).bind fun t214 => ((turncockref1_SameHeads.f k t211 t214).bind fun t217 => (if t217 = true then ((turncocklaw28_awake.f k).bind fun t218 => (some t218)) else (some false))))) else (some false))
theorem turncocklaw28_HeadOf.mono : ∀ a0 k, LeO (turncocklaw28_HeadOf.f k a0) (turncocklaw28_HeadOf.f (k + 1) a0) := by
  intro a0 k
  unfold turncocklaw28_HeadOf.f
  repeat' first
      | (with_reducible exact head_Of.mono _ _)
      | (with_reducible exact turncocklaw28_awake.mono _)
      | (with_reducible exact turncockref1_SameHeads.mono _ _ _)
      | (with_reducible exact turncockref26_Heads.mono _ _)
      | (with_reducible exact LeO.refl _)
      | (with_reducible exact LeO.none _)
      | (with_reducible refine LeO.ite ?_ ?_)
      | (with_reducible refine LeO.bind ?_ (fun _ => ?_))
      | exact head_Of.mono _ _
      | exact turncocklaw28_awake.mono _
      | exact turncockref1_SameHeads.mono _ _ _
      | exact turncockref26_Heads.mono _ _
      | exact LeO.none _
      | refine LeO.ite ?_ ?_
      | refine LeO.bind ?_ (fun _ => ?_)
set_option maxHeartbeats 8000000 in
set_option maxRecDepth 100000 in
theorem turncocklaw28_HeadOf.calls (k : Nat) (A0 : Option Addr) (c0 : Nat) (l0 : List (S26)) (r : Bool) (w : World) (hr0 : Kd.C k26 w A0 l0.length l0) (hc0 : l0.length ≤ c0) (h : turncocklaw28_HeadOf.f k l0 = some r) (hr_ : r = true) :
    Calls Try.prog 4 #[.slice A0 l0.length c0] w fun e w' => e = .returned (.bool r) ∧ Below w.heap.size w w' := by
  have HR0 := Aside0.mk hr0
  have HC0 := Aside0.mk hc0
  clear hr0 hc0
  have HB := Aside0.mk (Below.refl w.heap.size w)
  have H : (if (l0.length : Int) > 200 then ((turncocklaw28_awake.f k).bind fun t202 => (if t202 = true then (some true) else (if (l0.length : Int) ≤ 200 then ((head_Of.f k l0).bind fun t203 => ((turncockref26_Heads.f k l0).bind fun t206 => ((turncockref1_SameHeads.f k t203 t206).bind fun t209 => (if t209 = true then ((turncocklaw28_awake.f k).bind fun t210 => (some t210)) else (some false))))) else (some false)))) else (if (l0.length : Int) ≤ 200 then ((head_Of.f k l0).bind fun t211 => ((turncockref26_Heads.f k l0).bind fun t214 => ((turncockref1_SameHeads.f k t211 t214).bind fun t217 => (if t217 = true then ((turncocklaw28_awake.f k).bind fun t218 => (some t218)) else (some false))))) else (some false))) = some r := h
  clear h
  by_cases c2 : (l0.length : Int) > 200
  · rw [if_pos c2] at H
    have dead := Aside0.mk c2
    have c2b0 : decide (200 < (l0.length : Int)) = true := decide_eq_true c2
    have c2b1 : decide (200 < l0.length) = true := decide_eq_true (by omega)
    clear c2
    replace H := Option.bind_eq_some_iff.mp H
    obtain ⟨t202, A30, H⟩ := H
    replace H : (if t202 = true then (some true) else (if (l0.length : Int) ≤ 200 then ((head_Of.f k l0).bind fun t203 => ((turncockref26_Heads.f k l0).bind fun t206 => ((turncockref1_SameHeads.f k t203 t206).bind fun t209 => (if t209 = true then ((turncocklaw28_awake.f k).bind fun t210 => (some t210)) else (some false))))) else (some false))) = some r := H
    have A3 := Aside0.mk A30
    clear A30
    by_cases c4 : t202 = true
    · subst c4
      have H1 : (some true) = some r := by rw [if_pos rfl] at H; exact H
      clear H
      have H := H1
      clear H1
      first
        | exact absurd ((Option.some.inj H).trans hr_) (by decide)
        | (obtain rfl := Option.some.inj H
           clear hr_
           go_enter Try.func4, Try.ntmps4
           go_wp2_with (first | (go_at_call 13; (with_reducible refine (turncocklaw28_awake.calls k  true _ A3.out).mono ?_); rintro e w5 ⟨rfl, hb⟩; have n0_ := Aside0.mk (below_step (by repeat (first | (with_reducible first | exact HB.out | apply below_alloc | apply pw_below_drewN | apply below_drew1) | exact HB.out)) hb); clear HB; have HB := n0_; clear n0_; (try clear hb); (try clear hb2); (try clear hk); (try clear hi)))
           go_ret
           exact ⟨by first | rfl | (simp [errW_none, errW_some] <;> rfl) | (simp [*, errW_none, errW_some] <;> rfl), by repeat (first | (with_reducible first | exact HB.out | apply below_alloc | apply pw_below_drewN | apply below_drew1) | exact HB.out)⟩)
    · replace c4 := Bool.eq_false_iff.mpr c4
      subst c4
      have H1 : (if (l0.length : Int) ≤ 200 then ((head_Of.f k l0).bind fun t203 => ((turncockref26_Heads.f k l0).bind fun t206 => ((turncockref1_SameHeads.f k t203 t206).bind fun t209 => (if t209 = true then ((turncocklaw28_awake.f k).bind fun t210 => (some t210)) else (some false))))) else (some false)) = some r := by rw [if_neg (show ¬ (false = true) by decide)] at H; exact H
      clear H
      have H := H1
      clear H1
      by_cases c6 : (l0.length : Int) ≤ 200
      · rw [if_pos c6] at H
        exact absurd c6 (by have := dead.out; omega)
      · rw [if_neg c6] at H
        have c6b0 : decide ((l0.length : Int) ≤ 200) = false := decide_eq_false c6
        have c6b1 : decide (l0.length ≤ 200) = false := decide_eq_false (by omega)
        clear c6
        exact absurd ((Option.some.inj H).trans hr_) (by decide)
  · rw [if_neg c2] at H
    have c2b0 : decide (200 < (l0.length : Int)) = false := decide_eq_false c2
    have c2b1 : decide (200 < l0.length) = false := decide_eq_false (by omega)
    clear c2
    by_cases c24 : (l0.length : Int) ≤ 200
    · rw [if_pos c24] at H
      have c24b0 : decide ((l0.length : Int) ≤ 200) = true := decide_eq_true c24
      have c24b1 : decide (l0.length ≤ 200) = true := decide_eq_true (by omega)
      clear c24
      replace H := Option.bind_eq_some_iff.mp H
      obtain ⟨t211, A250, H⟩ := H
      replace H : ((turncockref26_Heads.f k l0).bind fun t214 => ((turncockref1_SameHeads.f k t211 t214).bind fun t217 => (if t217 = true then ((turncocklaw28_awake.f k).bind fun t218 => (some t218)) else (some false)))) = some r := H
      have A25 := Aside0.mk A250
      clear A250
      replace H := Option.bind_eq_some_iff.mp H
      obtain ⟨t214, A260, H⟩ := H
      replace H : ((turncockref1_SameHeads.f k t211 t214).bind fun t217 => (if t217 = true then ((turncocklaw28_awake.f k).bind fun t218 => (some t218)) else (some false))) = some r := H
      have A26 := Aside0.mk A260
      clear A260
      replace H := Option.bind_eq_some_iff.mp H
      obtain ⟨t217, A270, H⟩ := H
      replace H : (if t217 = true then ((turncocklaw28_awake.f k).bind fun t218 => (some t218)) else (some false)) = some r := H
      have A27 := Aside0.mk A270
      clear A270
      by_cases c28 : t217 = true
      · subst c28
        have H1 : ((turncocklaw28_awake.f k).bind fun t218 => (some t218)) = some r := by rw [if_pos rfl] at H; exact H
        clear H
        have H := H1
        clear H1
        replace H := Option.bind_eq_some_iff.mp H
        obtain ⟨t218, A290, H⟩ := H
        replace H : (some t218) = some r := H
        have A29 := Aside0.mk A290
        clear A290
        first
          | exact absurd ((Option.some.inj H).trans hr_) (by decide)
          | (obtain rfl := Option.some.inj H
             clear hr_
             go_enter Try.func4, Try.ntmps4
             go_wp2_with (first | (go_at_call 15; (with_reducible refine (head_Of.calls k _ _ l0 t211 _ ?side1 ?side2 A25.out).mono ?_); (case side1 => repeat (first | exact HR0.out | (with_reducible refine Kd.C_alloc ?_ _) | (with_reducible refine Kd.C_drewN ?_ _) | (with_reducible refine Kd.C_drew ?_))); (case side2 => exact HC0.out); rintro e w30 ⟨v212, rfl, ho0, hb⟩; have n0_ := Aside0.mk (Kd.R_lower ho0 (below_size (by repeat (first | (with_reducible first | exact HB.out | apply below_alloc | apply pw_below_drewN | apply below_drew1) | exact HB.out)))); have n1_ := Aside0.mk (below_step (by repeat (first | (with_reducible first | exact HB.out | apply below_alloc | apply pw_below_drewN | apply below_drew1) | exact HB.out)) hb); clear HB; have HO213 := n0_; have HB := n1_; clear n0_ n1_; (try clear hb); (try clear hb2); (try clear hk); (try clear hi); (try clear ho0)) | (go_at_call 18; (with_reducible refine (turncockref26_Heads.calls k _ _ l0 t214 _ ?side1 ?side2 A26.out).mono ?_); (case side1 => repeat (first | exact (Kd.C_below HR0.out HB.out) | (with_reducible refine Kd.C_alloc ?_ _) | (with_reducible refine Kd.C_drewN ?_ _) | (with_reducible refine Kd.C_drew ?_))); (case side2 => exact HC0.out); rintro e w31 ⟨v215, rfl, ho0, hb⟩; have n0_ := Aside0.mk (Kd.R_elder' (by (with_reducible repeat (first | apply Kd.R_alloc | apply Kd.R_drewN | apply Kd.R_drew)); exact HO213.out) (Kd.R_base ho0) hb); have n1_ := Aside0.mk (Kd.R_lower (Kd.R_new' ho0 (Kd.R_lt (by (with_reducible repeat (first | apply Kd.R_alloc | apply Kd.R_drewN | apply Kd.R_drew)); exact HO213.out))) (below_size (by repeat (first | (with_reducible first | exact HB.out | apply below_alloc | apply pw_below_drewN | apply below_drew1) | exact HB.out)))); have n2_ := Aside0.mk (below_step (by repeat (first | (with_reducible first | exact HB.out | apply below_alloc | apply pw_below_drewN | apply below_drew1) | exact HB.out)) hb); clear HO213; clear HB; have HO213 := n0_; have HO216 := n1_; have HB := n2_; clear n0_ n1_ n2_; (try clear hb); (try clear hb2); (try clear hk); (try clear hi); (try clear ho0); obtain ⟨Ao32, co32, eo32⟩ := Kd.R_slice HO213.out; subst eo32; obtain ⟨Ao33, co33, eo33⟩ := Kd.R_slice HO216.out; subst eo33) | (go_at_call 16; (with_reducible refine (turncockref1_SameHeads.calls k _ _ t211 _ _ t214 true _ ?side1 ?side2 ?side3 ?side4 A27.out).mono ?_); (case side1 => repeat (first | exact (Kd.R_reads' HO213.out).2.2 | (with_reducible refine Kd.C_alloc ?_ _) | (with_reducible refine Kd.C_drewN ?_ _) | (with_reducible refine Kd.C_drew ?_))); (case side2 => exact (Kd.R_reads' HO213.out).2.1); (case side3 => repeat (first | exact (Kd.R_reads' HO216.out).2.2 | (with_reducible refine Kd.C_alloc ?_ _) | (with_reducible refine Kd.C_drewN ?_ _) | (with_reducible refine Kd.C_drew ?_))); (case side4 => exact (Kd.R_reads' HO216.out).2.1); rintro e w' ⟨rfl, ⟨nd, rfl⟩⟩) | (go_at_call 13; (with_reducible refine (turncocklaw28_awake.calls k  t218 _ A29.out).mono ?_); rintro e w34 ⟨rfl, hb⟩; have n0_ := Aside0.mk (Kd.R_below (by (with_reducible repeat (first | apply Kd.R_alloc | apply Kd.R_drewN | apply Kd.R_drew)); exact HO213.out) hb); have n1_ := Aside0.mk (Kd.R_below (by (with_reducible repeat (first | apply Kd.R_alloc | apply Kd.R_drewN | apply Kd.R_drew)); exact HO216.out) hb); have n2_ := Aside0.mk (below_step (by repeat (first | (with_reducible first | exact HB.out | apply below_alloc | apply pw_below_drewN | apply below_drew1) | exact HB.out)) hb); clear HO213; clear HO216; clear HB; have HO213 := n0_; have HO216 := n1_; have HB := n2_; clear n0_ n1_ n2_; (try clear hb); (try clear hb2); (try clear hk); (try clear hi)))
             go_ret
             exact ⟨by first | rfl | (simp [errW_none, errW_some] <;> rfl) | (simp [*, errW_none, errW_some] <;> rfl), by repeat (first | (with_reducible first | exact HB.out | apply below_alloc | apply pw_below_drewN | apply below_drew1) | exact HB.out)⟩)
      · replace c28 := Bool.eq_false_iff.mpr c28
        subst c28
        have H1 : (some false) = some r := by rw [if_neg (show ¬ (false = true) by decide)] at H; exact H
        clear H
        have H := H1
        clear H1
        exact absurd ((Option.some.inj H).trans hr_) (by decide)
    · rw [if_neg c24] at H
      have c24b0 : decide ((l0.length : Int) ≤ 200) = false := decide_eq_false c24
      have c24b1 : decide (l0.length ≤ 200) = false := decide_eq_false (by omega)
      clear c24
      first
        | exact absurd ((Option.some.inj H).trans hr_) (by decide)
        | (obtain rfl := Option.some.inj H
           clear hr_
           go_enter Try.func4, Try.ntmps4
           go_wp2
           go_ret
           exact ⟨by first | rfl | (simp [errW_none, errW_some] <;> rfl) | (simp [*, errW_none, errW_some] <;> rfl), by repeat (first | (with_reducible first | exact HB.out | apply below_alloc | apply pw_below_drewN | apply below_drew1) | exact HB.out)⟩)

end Go.Proofs.Ytoopmkinpandfaa.PHeadOf
