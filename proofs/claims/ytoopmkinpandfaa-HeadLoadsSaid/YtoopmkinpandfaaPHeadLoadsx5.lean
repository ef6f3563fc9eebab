-- WRITTEN BY THIS SESSION'S mprint.py upon the print: some functions are proved by hand
import Derived.Test.YtoopmkinpandfaaPHeadLoadsx0
import Derived.Test.YtoopmkinpandfaaPHeadLoadsx3
import Derived.Test.YtoopmkinpandfaaPHeadLoadsx4
namespace Go.Proofs.Ytoopmkinpandfaa.PHeadLoads
open Go.RowKit Go.Proofs.YtoopmkinpandfaaW.PrintWords Go.Proofs.YtoopmkinpandfaaW.PrintLast Go.Proofs.YtoopmkinpandfaaW.PrintMore
attribute [local go_sem] max2_int min2_int max_two min_two max_three min_three max_four min_four   -- for this text's walks alone
set_option linter.unusedVariables false
set_option linter.unusedSimpArgs false

/-! ### turncocklaw28_HeadLoads: function 5 -/
theorem turncockref1_Shown.sim {k z t : Nat} {r : ByteArray} (h : fsim z t) (e : turncockref1_Shown.f k t = some r) : turncockref1_Shown.f k z = some r := by
  rcases h with rfl | ⟨h1, h2⟩
  · exact e
  · unfold turncockref1_Shown.f math_IsNaN.f at *
    rw [fne_nan h1, Option.bind_some, if_pos rfl]
    rw [fne_nan h2, Option.bind_some, if_pos rfl] at e
    exact e
def turncocklaw28_HeadLoads.j0 : Nat → Int → Int → Int → Bool → Option (Bool)
  | 0, _, _, _, _ => none
  | k + 1, x0, x1, x2, x31 => if x31 = true then ((turncocklaw28_awake.f k).bind fun t170 => (some t170)) else ((head_Of.f k (([(⟨1, x0, x2, x1, 0⟩ : S26)] : List (S26)))).bind fun t174 => (if (t174.length : Int) = 4 then (if 3 < (t174.length : Int) then (if x0 = 0 then (if ((rd_T31 t174 3).f1).toList = ([110, 97, 110] : List UInt8) then ((turncocklaw28_awake.f k).bind fun t178 => (some t178)) else (some false)) else (if x1 = 0 then (if ((rd_T31 t174 3).f1).toList = ([49, 46, 48, 48, 48] : List UInt8) then ((turncocklaw28_awake.f k).bind fun t179 => (some t179)) else (some false)) else (if x1 = x0 then (if ((rd_T31 t174 3).f1).toList = ([48, 46, 48, 48, 48] : List UInt8) then ((turncocklaw28_awake.f k).bind fun t180 => (some t180)) else (some false)) else (if (((rd_T31 t174 3).f1).size : Int) = 5 then (if 0 ≤ 2 then (if 2 ≤ (((rd_T31 t174 3).f1).size : Int) then (if (((rd_T31 t174 3).f1).extract 0 2).toList = ([48, 46] : List UInt8) then ((turncockref1_Of.f (wrap64 (x0 - x1)) x0).bind fun t181 => ((turncockref1_Shown.f k t181).bind fun t182 => (if ((rd_T31 t174 3).f1).toList = t182.toList then ((turncocklaw28_awake.f k).bind fun t183 => (some t183)) else (some false)))) else (some false)) else (none)) else (none)) else (some false))))) else (none)) else (some false)))
def turncocklaw28_HeadLoads.f (k : Nat) (a0 : Int) (a1 : Int) (a2 : Int) : Option (Bool) := if a0 < 0 then (turncocklaw28_HeadLoads.j0 k a0 a1 a2 true) else (if a0 > 4294967295 then (turncocklaw28_HeadLoads.j0 k a0 a1 a2 true) else (if a1 < 0 then (turncocklaw28_HeadLoads.j0 k a0 a1 a2 true) else (if a1 > a0 then (turncocklaw28_HeadLoads.j0 k a0 a1 a2 true) else (if a2 < 1 then (turncocklaw28_HeadLoads.j0 k a0 a1 a2 true) else (turncocklaw28_HeadLoads.j0 k a0 a1 a2 (decide (a2 > 4)))))))
theorem turncocklaw28_HeadLoads.mono_l : ∀ k, (∀ y0 y1 y2 y3, LeO (turncocklaw28_HeadLoads.j0 k y0 y1 y2 y3) (turncocklaw28_HeadLoads.j0 (k + 1) y0 y1 y2 y3))
  | 0 => fun _ _ _ _ r h => by simp [turncocklaw28_HeadLoads.j0] at h
  | k + 1 => by
    have ih0 := turncocklaw28_HeadLoads.mono_l k
    · intro y0 y1 y2 y3
      unfold turncocklaw28_HeadLoads.j0
      repeat' first
      | (with_reducible exact ih0 _ _ _ _)
      | (with_reducible exact head_Of.mono _ _)
      | (with_reducible exact turncocklaw28_awake.mono _)
      | (with_reducible exact turncockref1_Shown.mono _ _)
      | (with_reducible exact LeO.refl _)
      | (with_reducible exact LeO.none _)
      | (with_reducible refine LeO.ite ?_ ?_)
      | (with_reducible refine LeO.bind ?_ (fun _ => ?_))
      | exact ih0 _ _ _ _
      | exact head_Of.mono _ _
      | exact turncocklaw28_awake.mono _
      | exact turncockref1_Shown.mono _ _
      | exact LeO.none _
      | refine LeO.ite ?_ ?_
      | refine LeO.bind ?_ (fun _ => ?_)
theorem turncocklaw28_HeadLoads.mono : ∀ a0 a1 a2 k, LeO (turncocklaw28_HeadLoads.f k a0 a1 a2) (turncocklaw28_HeadLoads.f (k + 1) a0 a1 a2) := by
  intro a0 a1 a2 k
  have ih0 := turncocklaw28_HeadLoads.mono_l k
  unfold turncocklaw28_HeadLoads.f
  repeat' first
      | (with_reducible exact ih0 _ _ _ _)
      | (with_reducible exact head_Of.mono _ _)
      | (with_reducible exact turncocklaw28_awake.mono _)
      | (with_reducible exact turncockref1_Shown.mono _ _)
      | (with_reducible exact LeO.refl _)
      | (with_reducible exact LeO.none _)
      | (with_reducible refine LeO.ite ?_ ?_)
      | (with_reducible refine LeO.bind ?_ (fun _ => ?_))
      | exact ih0 _ _ _ _
      | exact head_Of.mono _ _
      | exact turncocklaw28_awake.mono _
      | exact turncockref1_Shown.mono _ _
      | exact LeO.none _
      | refine LeO.ite ?_ ?_
      | refine LeO.bind ?_ (fun _ => ?_)
set_option maxHeartbeats 8000000 in
set_option maxRecDepth 100000 in
theorem turncocklaw28_HeadLoads.calls (k : Nat) (a0 : Int) (a1 : Int) (a2 : Int) (r : Bool) (w : World) (h : turncocklaw28_HeadLoads.f k a0 a1 a2 = some r) (hr_ : r = true) :
    Calls Try.prog 5 #[.int .i64 a0, .int .i64 a1, .int .i64 a2] w fun e w' => e = .returned (.bool r) ∧ Below w.heap.size w w' := by
  have hu26 := Try.underlying26
  have HB := Aside0.mk (Below.refl w.heap.size w)
  have H : (if a0 < 0 then (turncocklaw28_HeadLoads.j0 k a0 a1 a2 true) else (if a0 > 4294967295 then (turncocklaw28_HeadLoads.j0 k a0 a1 a2 true) else (if a1 < 0 then (turncocklaw28_HeadLoads.j0 k a0 a1 a2 true) else (if a1 > a0 then (turncocklaw28_HeadLoads.j0 k a0 a1 a2 true) else (if a2 < 1 then (turncocklaw28_HeadLoads.j0 k a0 a1 a2 true) else (turncocklaw28_HeadLoads.j0 k a0 a1 a2 (decide (a2 > 4)))))))) = some r := h
  clear h
  have HC4 := Aside0.mk H
  clear H
  go_enter Try.func5, Try.ntmps5
  go_upto_region 1 with (fail)
  go_cut [31] (fun v31 wc => ∃ (kq : Nat) (x31_3 : Bool), v31 = .bool x31_3 ∧ Aside0 (turncocklaw28_HeadLoads.j0 kq a0 a1 a2 x31_3 = some r) ∧ Aside0 (kq ≤ k) ∧ Aside0 (Below w.heap.size w wc))
  case first =>
    have H := HC4.out
    clear HC4
    by_cases c5 : a0 < 0
    · rw [if_pos c5] at H
      have c5b0 : decide (a0 < 0) = true := decide_eq_true c5
      clear c5
      (first | rw [c5b0] | (simp only [i64_w, i32_w]; rw [c5b0]) | skip)
      have H' := Aside0.mk H
      clear H
      go_wp2
      go_meet
      case rel => exact ⟨_, (true), (by first | rfl | (simp; done) | (simp [*]; done)), H', ⟨by first | omega | exact Nat.le_refl _⟩, ⟨by repeat (first | (with_reducible first | exact HB.out | apply below_alloc | apply pw_below_drewN | apply below_drew1) | exact HB.out)⟩⟩
    · rw [if_neg c5] at H
      have c5b0 : decide (a0 < 0) = false := decide_eq_false c5
      clear c5
      (first | rw [c5b0] | (simp only [i64_w, i32_w]; rw [c5b0]) | skip)
      by_cases c6 : a0 > 4294967295
      · rw [if_pos c6] at H
        have c6b0 : decide (4294967295 < a0) = true := decide_eq_true c6
        clear c6
        have H' := Aside0.mk H
        clear H
        go_wp2
        go_meet
        case rel => exact ⟨_, (true), (by first | rfl | (simp; done) | (simp [*]; done)), H', ⟨by first | omega | exact Nat.le_refl _⟩, ⟨by repeat (first | (with_reducible first | exact HB.out | apply below_alloc | apply pw_below_drewN | apply below_drew1) | exact HB.out)⟩⟩
      · rw [if_neg c6] at H
        have c6b0 : decide (4294967295 < a0) = false := decide_eq_false c6
        clear c6
        by_cases c7 : a1 < 0
        · rw [if_pos c7] at H
          have c7b0 : decide (a1 < 0) = true := decide_eq_true c7
          clear c7
          have H' := Aside0.mk H
          clear H
          go_wp2
          go_meet
          case rel => exact ⟨_, (true), (by first | rfl | (simp; done) | (simp [*]; done)), H', ⟨by first | omega | exact Nat.le_refl _⟩, ⟨by repeat (first | (with_reducible first | exact HB.out | apply below_alloc | apply pw_below_drewN | apply below_drew1) | exact HB.out)⟩⟩
        · rw [if_neg c7] at H
          have c7b0 : decide (a1 < 0) = false := decide_eq_false c7
          clear c7
          by_cases c8 : a1 > a0
          · rw [if_pos c8] at H
            have c8b0 : decide (a0 < a1) = true := decide_eq_true c8
            clear c8
            have H' := Aside0.mk H
            clear H
            go_wp2
            go_meet
            case rel => exact ⟨_, (true), (by first | rfl | (simp; done) | (simp [*]; done)), H', ⟨by first | omega | exact Nat.le_refl _⟩, ⟨by repeat (first | (with_reducible first | exact HB.out | apply below_alloc | apply pw_below_drewN | apply below_drew1) | exact HB.out)⟩⟩
          · rw [if_neg c8] at H
            have c8b0 : decide (a0 < a1) = false := decide_eq_false c8
            clear c8
            by_cases c9 : a2 < 1
            · rw [if_pos c9] at H
              have c9b0 : decide (a2 < 1) = true := decide_eq_true c9
              clear c9
              have H' := Aside0.mk H
              clear H
              go_wp2
              go_meet
              case rel => exact ⟨_, (true), (by first | rfl | (simp; done) | (simp [*]; done)), H', ⟨by first | omega | exact Nat.le_refl _⟩, ⟨by repeat (first | (with_reducible first | exact HB.out | apply below_alloc | apply pw_below_drewN | apply below_drew1) | exact HB.out)⟩⟩
            · rw [if_neg c9] at H
              have c9b0 : decide (a2 < 1) = false := decide_eq_false c9
              clear c9
              have H' := Aside0.mk H
              clear H
              go_wp2
              go_meet
              case rel => exact ⟨_, (decide (a2 > 4)), (by first | rfl | (simp; done) | (simp [*]; done)), H', ⟨by first | omega | exact Nat.le_refl _⟩, ⟨by repeat (first | (with_reducible first | exact HB.out | apply below_alloc | apply pw_below_drewN | apply below_drew1) | exact HB.out)⟩⟩
  case rest =>
    clear HC4
    try clear p2
    try clear c5
    try clear c5b0
    try clear c6
    try clear c6b0
    try clear c7
    try clear c7b0
    try clear c8
    try clear c8b0
    try clear c9
    try clear c9b0
    obtain ⟨kq, x31_3, rfl, HA, HJ3, HB⟩ := hcut
    cases kq with
    | zero => exact absurd HA.out (by simp [turncocklaw28_HeadLoads.j0])
    | succ kj3 =>
      have H := HA.out
      clear HA
      simp only [turncocklaw28_HeadLoads.j0] at H
      by_cases c10 : x31_3 = true
      · subst c10
        have H1 : ((turncocklaw28_awake.f kj3).bind fun t170 => (some t170)) = some r := by rw [if_pos rfl] at H; exact H
        clear H
        have H := H1
        clear H1
        replace H := Option.bind_eq_some_iff.mp H
        obtain ⟨t170, A110, H⟩ := H
        replace H : (some t170) = some r := H
        have A11 := Aside0.mk A110
        clear A110
        first
          | exact absurd ((Option.some.inj H).trans hr_) (by decide)
          | (obtain rfl := Option.some.inj H
             clear hr_
             go_wp2_with (first | ((with_reducible refine gate_callee (f := 13) rfl ?_); refine goesL_ (some 32) rfl rfl Try.func13 (by kernel_rfl) rfl #[] rfl (by (try simp only [List.map_toArray, List.map_cons, List.map_nil]); first | done | rfl | (simp only [List.length_drop, List.length_take]; rfl)) ?_; (with_reducible refine (turncocklaw28_awake.calls kj3  t170 _ A11.out).mono ?_); rintro e w12 ⟨rfl, hb⟩; refine ⟨_, rfl, ?_⟩; have n0_ := Aside0.mk (below_step (by repeat (first | (with_reducible first | exact HB.out | apply below_alloc | apply pw_below_drewN | apply below_drew1) | exact HB.out)) hb); clear HB; have HB := n0_; clear n0_; (try clear hb); (try clear hb2); (try clear hk); (try clear hi)))
             go_ret
             exact ⟨by first | rfl | (simp [errW_none, errW_some] <;> rfl) | (simp [*, errW_none, errW_some] <;> rfl), by repeat (first | (with_reducible first | exact HB.out | apply below_alloc | apply pw_below_drewN | apply below_drew1) | exact HB.out)⟩)
      · replace c10 := Bool.eq_false_iff.mpr c10
        subst c10
        have H1 : ((head_Of.f kj3 (([(⟨1, a0, a2, a1, 0⟩ : S26)] : List (S26)))).bind fun t174 => (if (t174.length : Int) = 4 then (if 3 < (t174.length : Int) then (if a0 = 0 then (if ((rd_T31 t174 3).f1).toList = ([110, 97, 110] : List UInt8) then ((turncocklaw28_awake.f kj3).bind fun t178 => (some t178)) else (some false)) else (if a1 = 0 then (if ((rd_T31 t174 3).f1).toList = ([49, 46, 48, 48, 48] : List UInt8) then ((turncocklaw28_awake.f kj3).bind fun t179 => (some t179)) else (some false)) else (if a1 = a0 then (if ((rd_T31 t174 3).f1).toList = ([48, 46, 48, 48, 48] : List UInt8) then ((turncocklaw28_awake.f kj3).bind fun t180 => (some t180)) else (some false)) else (if (((rd_T31 t174 3).f1).size : Int) = 5 then (if 0 ≤ 2 then (if 2 ≤ (((rd_T31 t174 3).f1).size : Int) then (if (((rd_T31 t174 3).f1).extract 0 2).toList = ([48, 46] : List UInt8) then ((turncockref1_Of.f (wrap64 (a0 - a1)) a0).bind fun t181 => ((turncockref1_Shown.f kj3 t181).bind fun t182 => (if ((rd_T31 t174 3).f1).toList = t182.toList then ((turncocklaw28_awake.f kj3).bind fun t183 => (some t183)) else (some false)))) else (some false)) else (none)) else (none)) else (some false))))) else (none)) else (some false))) = some r := by rw [if_neg (show ¬ (false = true) by decide)] at H; exact H
        clear H
        have H := H1
        clear H1
        obtain ⟨y171, hy171⟩ : ∃ y_ : List (S26), y_ = (([(⟨1, a0, a2, a1, 0⟩ : S26)] : List (S26))) := ⟨_, rfl⟩
        replace H : ((head_Of.f kj3 y171).bind fun t174 => (if (t174.length : Int) = 4 then (if 3 < (t174.length : Int) then (if a0 = 0 then (if ((rd_T31 t174 3).f1).toList = ([110, 97, 110] : List UInt8) then ((turncocklaw28_awake.f kj3).bind fun t178 => (some t178)) else (some false)) else (if a1 = 0 then (if ((rd_T31 t174 3).f1).toList = ([49, 46, 48, 48, 48] : List UInt8) then ((turncocklaw28_awake.f kj3).bind fun t179 => (some t179)) else (some false)) else (if a1 = a0 then (if ((rd_T31 t174 3).f1).toList = ([48, 46, 48, 48, 48] : List UInt8) then ((turncocklaw28_awake.f kj3).bind fun t180 => (some t180)) else (some false)) else (if (((rd_T31 t174 3).f1).size : Int) = 5 then (if 0 ≤ 2 then (if 2 ≤ (((rd_T31 t174 3).f1).size : Int) then (if (((rd_T31 t174 3).f1).extract 0 2).toList = ([48, 46] : List UInt8) then ((turncockref1_Of.f (wrap64 (a0 - a1)) a0).bind fun t181 => ((turncockref1_Shown.f kj3 t181).bind fun t182 => (if ((rd_T31 t174 3).f1).toList = t182.toList then ((turncocklaw28_awake.f kj3).bind fun t183 => (some t183)) else (some false)))) else (some false)) else (none)) else (none)) else (some false))))) else (none)) else (some false))) = some r := by first | (rw [hy171]; with_reducible exact H) | (have H2_ := (Option.bind_some _ _).symm.trans H; rw [hy171]; with_reducible exact H2_) | (have H2_ := (Option.bind_some _ _).symm.trans H; with_reducible exact H2_) | with_reducible exact H | (rw [hy171]; exact H) | exact H
        have Ny171 := Aside0.mk hy171
        clear hy171
        replace H := Option.bind_eq_some_iff.mp H
        obtain ⟨t174, A130, H⟩ := H
        replace H : (if (t174.length : Int) = 4 then (if 3 < (t174.length : Int) then (if a0 = 0 then (if ((rd_T31 t174 3).f1).toList = ([110, 97, 110] : List UInt8) then ((turncocklaw28_awake.f kj3).bind fun t178 => (some t178)) else (some false)) else (if a1 = 0 then (if ((rd_T31 t174 3).f1).toList = ([49, 46, 48, 48, 48] : List UInt8) then ((turncocklaw28_awake.f kj3).bind fun t179 => (some t179)) else (some false)) else (if a1 = a0 then (if ((rd_T31 t174 3).f1).toList = ([48, 46, 48, 48, 48] : List UInt8) then ((turncocklaw28_awake.f kj3).bind fun t180 => (some t180)) else (some false)) else (if (((rd_T31 t174 3).f1).size : Int) = 5 then (if 0 ≤ 2 then (if 2 ≤ (((rd_T31 t174 3).f1).size : Int) then (if (((rd_T31 t174 3).f1).extract 0 2).toList = ([48, 46] : List UInt8) then ((turncockref1_Of.f (wrap64 (a0 - a1)) a0).bind fun t181 => ((turncockref1_Shown.f kj3 t181).bind fun t182 => (if ((rd_T31 t174 3).f1).toList = t182.toList then ((turncocklaw28_awake.f kj3).bind fun t183 => (some t183)) else (some false)))) else (some false)) else (none)) else (none)) else (some false))))) else (none)) else (some false)) = some r := H
        have A13 := Aside0.mk A130
        clear A130
        by_cases c14 : (t174.length : Int) = 4
        · rw [if_pos c14] at H
          have c14b0 : ((t174.length : Int) == 4) = true := beq_iff_eq.mpr c14
          have c14b1 : ((t174.length : Int) != 4) = false := bne_eq_false_iff_eq.mpr c14
          clear c14
          by_cases c15 : 3 < (t174.length : Int)
          · rw [if_pos c15] at H
            have c15b0 : decide (3 < (t174.length : Int)) = true := decide_eq_true c15
            have c15b1 : decide (3 < t174.length) = true := decide_eq_true (by omega)
            clear c15
            by_cases c16 : a0 = 0
            · rw [if_pos c16] at H
              have c16b0 : (a0 == 0) = true := beq_iff_eq.mpr c16
              have c16b1 : (a0 != 0) = false := bne_eq_false_iff_eq.mpr c16
              clear c16
              by_cases c17 : ((rd_T31 t174 3).f1).toList = ([110, 97, 110] : List UInt8)
              · rw [if_pos c17] at H
                have c17b0 : (((rd_T31 t174 3).f1).toList == ([110, 97, 110] : List UInt8)) = true := beq_iff_eq.mpr c17
                have c17b1 : (((rd_T31 t174 3).f1).toList != ([110, 97, 110] : List UInt8)) = false := bne_eq_false_iff_eq.mpr c17
                clear c17
                replace H := Option.bind_eq_some_iff.mp H
                obtain ⟨t178, A180, H⟩ := H
                replace H : (some t178) = some r := H
                have A18 := Aside0.mk A180
                clear A180
                first
                  | exact absurd ((Option.some.inj H).trans hr_) (by decide)
                  | (obtain rfl := Option.some.inj H
                     clear hr_
                     go_wp2_with (first | ((with_reducible refine gate_dst (N := 37) rfl ?_); refine Kd.R_lit k26 _ 26 ?hg (N := 37) ?hd (xs := ([(⟨1, a0, a2, a1, 0⟩ : S26)] : List (S26))) (inner := [.int .i64 1, .int .i64 a0, .int .i64 a2, .int .i64 a1, .int .i64 0]) (ok := fun _ => True) (okp := fun _ => True) ?hr ?hp (fun _ hk => hk) trivial (Below.refl _ _) (Nat.le_refl _) (by simp) ?_; (case hd => rfl); (case hg => rfl); (case hr => first | (go_simp; done) | (go_simp; rfl)); (case hp => exact (Reps.c5 (show Kd.M k26 _ _ _ (⟨1, a0, a2, a1, 0⟩ : S26) [.int .i64 1, .int .i64 a0, .int .i64 a2, .int .i64 a1, .int .i64 0] from (k26_mkM _ _ _ (⟨1, a0, a2, a1, 0⟩ : S26) )) (Reps.none _ _))); intro v172 w19 ho20 hb hg_ hnew_; clear hg_ hnew_; (first | rw [← Ny171.out] at ho20 | (simp only [Int.reduceToNat] at ho20; rw [← Ny171.out] at ho20)); have n0_ := Aside0.mk (Kd.R_lower ho20 (below_size (by repeat (first | (with_reducible first | exact HB.out | apply below_alloc | apply pw_below_drewN | apply below_drew1) | exact HB.out)))); have n1_ := Aside0.mk (below_step (by repeat (first | (with_reducible first | exact HB.out | apply below_alloc | apply pw_below_drewN | apply below_drew1) | exact HB.out)) hb); clear HB; have HO173 := n0_; have HB := n1_; clear n0_ n1_; clear hb ho20; obtain ⟨Ao21, co21, eo21⟩ := Kd.R_slice HO173.out; subst eo21) | ((with_reducible refine gate_callee (f := 15) rfl ?_); refine goesL_ (some 38) rfl rfl Try.func15 (by kernel_rfl) rfl #[.slice Ao21 y171.length co21] rfl (by (try simp only [List.map_toArray, List.map_cons, List.map_nil]); first | done | rfl | (simp only [List.length_drop, List.length_take]; rfl)) ?_; (with_reducible refine (head_Of.calls kj3 _ _ y171 t174 _ ?side1 ?side2 A13.out).mono ?_); (case side1 => repeat (first | exact (Kd.R_reads' HO173.out).2.2 | (with_reducible refine Kd.C_alloc ?_ _) | (with_reducible refine Kd.C_drewN ?_ _) | (with_reducible refine Kd.C_drew ?_))); (case side2 => exact (Kd.R_reads' HO173.out).2.1); rintro e w22 ⟨v175, rfl, ho0, hb⟩; refine ⟨_, rfl, ?_⟩; have n0_ := Aside0.mk (Kd.R_below (by (with_reducible repeat (first | apply Kd.R_alloc | apply Kd.R_drewN | apply Kd.R_drew)); exact HO173.out) hb); have n1_ := Aside0.mk (Kd.R_lower ho0 (below_size (by repeat (first | (with_reducible first | exact HB.out | apply below_alloc | apply pw_below_drewN | apply below_drew1) | exact HB.out)))); have n2_ := Aside0.mk (below_step (by repeat (first | (with_reducible first | exact HB.out | apply below_alloc | apply pw_below_drewN | apply below_drew1) | exact HB.out)) hb); clear HO173; clear HB; have HO173 := n0_; have HO176 := n1_; have HB := n2_; clear n0_ n1_ n2_; (try clear hb); (try clear hb2); (try clear hk); (try clear hi); (try clear ho0); obtain ⟨Ao23, co23, eo23⟩ := Kd.R_slice HO176.out; subst eo23; have p177 : 0 ≤ (3 : Int) := (by omega); have q177 : 3 < (t174.length : Int) := of_decide_eq_true (by first | (with_reducible assumption) | assumption); obtain ⟨ad177, e177, hx177_0, hx177_1⟩ := at_T31 (Kd.R_reads' HO176.out).2.2 3 p177 q177; cases e177; (try simp only [show (3 : Int).toNat = 3 from rfl, Nat.reduceMul, Nat.reduceEqDiff, Go.Addr.add, ↓reduceIte] at hx177_0); (try simp only [show (3 : Int).toNat = 3 from rfl, Nat.reduceMul, Nat.reduceEqDiff, Go.Addr.add, ↓reduceIte] at hx177_1); have qi177 : (3 < t174.length) = True := eq_true (by omega); (try rw [show ((3 : Int)).toNat = 3 from rfl] at hx177_0); (try rw [show 3 * 2 = 6 from rfl] at hx177_0); (try rw [show ((3 : Int)).toNat = 3 from rfl] at hx177_1); (try rw [show 3 * 2 = 6 from rfl] at hx177_1); replace p177 := eq_true p177; replace q177 := eq_true q177) | (go_at_call 13; (with_reducible refine (turncocklaw28_awake.calls kj3  t178 _ A18.out).mono ?_); rintro e w24 ⟨rfl, hb⟩; have n0_ := Aside0.mk (Kd.R_below (by (with_reducible repeat (first | apply Kd.R_alloc | apply Kd.R_drewN | apply Kd.R_drew)); exact HO173.out) hb); have n1_ := Aside0.mk (Kd.R_below (by (with_reducible repeat (first | apply Kd.R_alloc | apply Kd.R_drewN | apply Kd.R_drew)); exact HO176.out) hb); have n2_ := Aside0.mk (below_step (by repeat (first | (with_reducible first | exact HB.out | apply below_alloc | apply pw_below_drewN | apply below_drew1) | exact HB.out)) hb); clear HO173; clear HO176; clear HB; have HO173 := n0_; have HO176 := n1_; have HB := n2_; clear n0_ n1_ n2_; (try clear hb); (try clear hb2); (try clear hk); (try clear hi)))
                     go_ret
                     exact ⟨by first | rfl | (simp [errW_none, errW_some] <;> rfl) | (simp [*, errW_none, errW_some] <;> rfl), by repeat (first | (with_reducible first | exact HB.out | apply below_alloc | apply pw_below_drewN | apply below_drew1) | exact HB.out)⟩)
              · rw [if_neg c17] at H
                have c17b0 : (((rd_T31 t174 3).f1).toList == ([110, 97, 110] : List UInt8)) = false := beq_eq_false_iff_ne.mpr c17
                have c17b1 : (((rd_T31 t174 3).f1).toList != ([110, 97, 110] : List UInt8)) = true := bne_iff_ne.mpr c17
                exact absurd ((Option.some.inj H).trans hr_) (by decide)
            · rw [if_neg c16] at H
              have c16b0 : (a0 == 0) = false := beq_eq_false_iff_ne.mpr c16
              have c16b1 : (a0 != 0) = true := bne_iff_ne.mpr c16
              by_cases c30 : a1 = 0
              · rw [if_pos c30] at H
                have c30b0 : (a1 == 0) = true := beq_iff_eq.mpr c30
                have c30b1 : (a1 != 0) = false := bne_eq_false_iff_eq.mpr c30
                clear c30
                by_cases c31 : ((rd_T31 t174 3).f1).toList = ([49, 46, 48, 48, 48] : List UInt8)
                · rw [if_pos c31] at H
                  have c31b0 : (((rd_T31 t174 3).f1).toList == ([49, 46, 48, 48, 48] : List UInt8)) = true := beq_iff_eq.mpr c31
                  have c31b1 : (((rd_T31 t174 3).f1).toList != ([49, 46, 48, 48, 48] : List UInt8)) = false := bne_eq_false_iff_eq.mpr c31
                  clear c31
                  replace H := Option.bind_eq_some_iff.mp H
                  obtain ⟨t179, A320, H⟩ := H
                  replace H : (some t179) = some r := H
                  have A32 := Aside0.mk A320
                  clear A320
                  first
                    | exact absurd ((Option.some.inj H).trans hr_) (by decide)
                    | (obtain rfl := Option.some.inj H
                       clear hr_
                       go_wp2_with (first | ((with_reducible refine gate_dst (N := 37) rfl ?_); refine Kd.R_lit k26 _ 26 ?hg (N := 37) ?hd (xs := ([(⟨1, a0, a2, a1, 0⟩ : S26)] : List (S26))) (inner := [.int .i64 1, .int .i64 a0, .int .i64 a2, .int .i64 a1, .int .i64 0]) (ok := fun _ => True) (okp := fun _ => True) ?hr ?hp (fun _ hk => hk) trivial (Below.refl _ _) (Nat.le_refl _) (by simp) ?_; (case hd => rfl); (case hg => rfl); (case hr => first | (go_simp; done) | (go_simp; rfl)); (case hp => exact (Reps.c5 (show Kd.M k26 _ _ _ (⟨1, a0, a2, a1, 0⟩ : S26) [.int .i64 1, .int .i64 a0, .int .i64 a2, .int .i64 a1, .int .i64 0] from (k26_mkM _ _ _ (⟨1, a0, a2, a1, 0⟩ : S26) )) (Reps.none _ _))); intro v172 w33 ho34 hb hg_ hnew_; clear hg_ hnew_; (first | rw [← Ny171.out] at ho34 | (simp only [Int.reduceToNat] at ho34; rw [← Ny171.out] at ho34)); have n0_ := Aside0.mk (Kd.R_lower ho34 (below_size (by repeat (first | (with_reducible first | exact HB.out | apply below_alloc | apply pw_below_drewN | apply below_drew1) | exact HB.out)))); have n1_ := Aside0.mk (below_step (by repeat (first | (with_reducible first | exact HB.out | apply below_alloc | apply pw_below_drewN | apply below_drew1) | exact HB.out)) hb); clear HB; have HO173 := n0_; have HB := n1_; clear n0_ n1_; clear hb ho34; obtain ⟨Ao35, co35, eo35⟩ := Kd.R_slice HO173.out; subst eo35) | ((with_reducible refine gate_callee (f := 15) rfl ?_); refine goesL_ (some 38) rfl rfl Try.func15 (by kernel_rfl) rfl #[.slice Ao35 y171.length co35] rfl (by (try simp only [List.map_toArray, List.map_cons, List.map_nil]); first | done | rfl | (simp only [List.length_drop, List.length_take]; rfl)) ?_; (with_reducible refine (head_Of.calls kj3 _ _ y171 t174 _ ?side1 ?side2 A13.out).mono ?_); (case side1 => repeat (first | exact (Kd.R_reads' HO173.out).2.2 | (with_reducible refine Kd.C_alloc ?_ _) | (with_reducible refine Kd.C_drewN ?_ _) | (with_reducible refine Kd.C_drew ?_))); (case side2 => exact (Kd.R_reads' HO173.out).2.1); rintro e w36 ⟨v175, rfl, ho0, hb⟩; refine ⟨_, rfl, ?_⟩; have n0_ := Aside0.mk (Kd.R_below (by (with_reducible repeat (first | apply Kd.R_alloc | apply Kd.R_drewN | apply Kd.R_drew)); exact HO173.out) hb); have n1_ := Aside0.mk (Kd.R_lower ho0 (below_size (by repeat (first | (with_reducible first | exact HB.out | apply below_alloc | apply pw_below_drewN | apply below_drew1) | exact HB.out)))); have n2_ := Aside0.mk (below_step (by repeat (first | (with_reducible first | exact HB.out | apply below_alloc | apply pw_below_drewN | apply below_drew1) | exact HB.out)) hb); clear HO173; clear HB; have HO173 := n0_; have HO176 := n1_; have HB := n2_; clear n0_ n1_ n2_; (try clear hb); (try clear hb2); (try clear hk); (try clear hi); (try clear ho0); obtain ⟨Ao37, co37, eo37⟩ := Kd.R_slice HO176.out; subst eo37; have p177 : 0 ≤ (3 : Int) := (by omega); have q177 : 3 < (t174.length : Int) := of_decide_eq_true (by first | (with_reducible assumption) | assumption); obtain ⟨ad177, e177, hx177_0, hx177_1⟩ := at_T31 (Kd.R_reads' HO176.out).2.2 3 p177 q177; cases e177; (try simp only [show (3 : Int).toNat = 3 from rfl, Nat.reduceMul, Nat.reduceEqDiff, Go.Addr.add, ↓reduceIte] at hx177_0); (try simp only [show (3 : Int).toNat = 3 from rfl, Nat.reduceMul, Nat.reduceEqDiff, Go.Addr.add, ↓reduceIte] at hx177_1); have qi177 : (3 < t174.length) = True := eq_true (by omega); (try rw [show ((3 : Int)).toNat = 3 from rfl] at hx177_0); (try rw [show 3 * 2 = 6 from rfl] at hx177_0); (try rw [show ((3 : Int)).toNat = 3 from rfl] at hx177_1); (try rw [show 3 * 2 = 6 from rfl] at hx177_1); replace p177 := eq_true p177; replace q177 := eq_true q177) | (go_at_call 13; (with_reducible refine (turncocklaw28_awake.calls kj3  t179 _ A32.out).mono ?_); rintro e w38 ⟨rfl, hb⟩; have n0_ := Aside0.mk (Kd.R_below (by (with_reducible repeat (first | apply Kd.R_alloc | apply Kd.R_drewN | apply Kd.R_drew)); exact HO173.out) hb); have n1_ := Aside0.mk (Kd.R_below (by (with_reducible repeat (first | apply Kd.R_alloc | apply Kd.R_drewN | apply Kd.R_drew)); exact HO176.out) hb); have n2_ := Aside0.mk (below_step (by repeat (first | (with_reducible first | exact HB.out | apply below_alloc | apply pw_below_drewN | apply below_drew1) | exact HB.out)) hb); clear HO173; clear HO176; clear HB; have HO173 := n0_; have HO176 := n1_; have HB := n2_; clear n0_ n1_ n2_; (try clear hb); (try clear hb2); (try clear hk); (try clear hi)))
                       go_ret
                       exact ⟨by first | rfl | (simp [errW_none, errW_some] <;> rfl) | (simp [*, errW_none, errW_some] <;> rfl), by repeat (first | (with_reducible first | exact HB.out | apply below_alloc | apply pw_below_drewN | apply below_drew1) | exact HB.out)⟩)
                · rw [if_neg c31] at H
                  have c31b0 : (((rd_T31 t174 3).f1).toList == ([49, 46, 48, 48, 48] : List UInt8)) = false := beq_eq_false_iff_ne.mpr c31
                  have c31b1 : (((rd_T31 t174 3).f1).toList != ([49, 46, 48, 48, 48] : List UInt8)) = true := bne_iff_ne.mpr c31
                  first
                    | exact absurd ((Option.some.inj H).trans hr_) (by decide)
                    | (obtain rfl := Option.some.inj H
                       clear hr_
                       go_wp2_with (first | ((with_reducible refine gate_dst (N := 37) rfl ?_); refine Kd.R_lit k26 _ 26 ?hg (N := 37) ?hd (xs := ([(⟨1, a0, a2, a1, 0⟩ : S26)] : List (S26))) (inner := [.int .i64 1, .int .i64 a0, .int .i64 a2, .int .i64 a1, .int .i64 0]) (ok := fun _ => True) (okp := fun _ => True) ?hr ?hp (fun _ hk => hk) trivial (Below.refl _ _) (Nat.le_refl _) (by simp) ?_; (case hd => rfl); (case hg => rfl); (case hr => first | (go_simp; done) | (go_simp; rfl)); (case hp => exact (Reps.c5 (show Kd.M k26 _ _ _ (⟨1, a0, a2, a1, 0⟩ : S26) [.int .i64 1, .int .i64 a0, .int .i64 a2, .int .i64 a1, .int .i64 0] from (k26_mkM _ _ _ (⟨1, a0, a2, a1, 0⟩ : S26) )) (Reps.none _ _))); intro v172 w39 ho40 hb hg_ hnew_; clear hg_ hnew_; (first | rw [← Ny171.out] at ho40 | (simp only [Int.reduceToNat] at ho40; rw [← Ny171.out] at ho40)); have n0_ := Aside0.mk (Kd.R_lower ho40 (below_size (by repeat (first | (with_reducible first | exact HB.out | apply below_alloc | apply pw_below_drewN | apply below_drew1) | exact HB.out)))); have n1_ := Aside0.mk (below_step (by repeat (first | (with_reducible first | exact HB.out | apply below_alloc | apply pw_below_drewN | apply below_drew1) | exact HB.out)) hb); clear HB; have HO173 := n0_; have HB := n1_; clear n0_ n1_; clear hb ho40; obtain ⟨Ao41, co41, eo41⟩ := Kd.R_slice HO173.out; subst eo41) | ((with_reducible refine gate_callee (f := 15) rfl ?_); refine goesL_ (some 38) rfl rfl Try.func15 (by kernel_rfl) rfl #[.slice Ao41 y171.length co41] rfl (by (try simp only [List.map_toArray, List.map_cons, List.map_nil]); first | done | rfl | (simp only [List.length_drop, List.length_take]; rfl)) ?_; (with_reducible refine (head_Of.calls kj3 _ _ y171 t174 _ ?side1 ?side2 A13.out).mono ?_); (case side1 => repeat (first | exact (Kd.R_reads' HO173.out).2.2 | (with_reducible refine Kd.C_alloc ?_ _) | (with_reducible refine Kd.C_drewN ?_ _) | (with_reducible refine Kd.C_drew ?_))); (case side2 => exact (Kd.R_reads' HO173.out).2.1); rintro e w42 ⟨v175, rfl, ho0, hb⟩; refine ⟨_, rfl, ?_⟩; have n0_ := Aside0.mk (Kd.R_below (by (with_reducible repeat (first | apply Kd.R_alloc | apply Kd.R_drewN | apply Kd.R_drew)); exact HO173.out) hb); have n1_ := Aside0.mk (Kd.R_lower ho0 (below_size (by repeat (first | (with_reducible first | exact HB.out | apply below_alloc | apply pw_below_drewN | apply below_drew1) | exact HB.out)))); have n2_ := Aside0.mk (below_step (by repeat (first | (with_reducible first | exact HB.out | apply below_alloc | apply pw_below_drewN | apply below_drew1) | exact HB.out)) hb); clear HO173; clear HB; have HO173 := n0_; have HO176 := n1_; have HB := n2_; clear n0_ n1_ n2_; (try clear hb); (try clear hb2); (try clear hk); (try clear hi); (try clear ho0); obtain ⟨Ao43, co43, eo43⟩ := Kd.R_slice HO176.out; subst eo43; have p177 : 0 ≤ (3 : Int) := (by omega); have q177 : 3 < (t174.length : Int) := of_decide_eq_true (by first | (with_reducible assumption) | assumption); obtain ⟨ad177, e177, hx177_0, hx177_1⟩ := at_T31 (Kd.R_reads' HO176.out).2.2 3 p177 q177; cases e177; (try simp only [show (3 : Int).toNat = 3 from rfl, Nat.reduceMul, Nat.reduceEqDiff, Go.Addr.add, ↓reduceIte] at hx177_0); (try simp only [show (3 : Int).toNat = 3 from rfl, Nat.reduceMul, Nat.reduceEqDiff, Go.Addr.add, ↓reduceIte] at hx177_1); have qi177 : (3 < t174.length) = True := eq_true (by omega); (try rw [show ((3 : Int)).toNat = 3 from rfl] at hx177_0); (try rw [show 3 * 2 = 6 from rfl] at hx177_0); (try rw [show ((3 : Int)).toNat = 3 from rfl] at hx177_1); (try rw [show 3 * 2 = 6 from rfl] at hx177_1); replace p177 := eq_true p177; replace q177 := eq_true q177))
                       go_ret
                       exact ⟨by first | rfl | (simp [errW_none, errW_some] <;> rfl) | (simp [*, errW_none, errW_some] <;> rfl), by repeat (first | (with_reducible first | exact HB.out | apply below_alloc | apply pw_below_drewN | apply below_drew1) | exact HB.out)⟩)
              · rw [if_neg c30] at H
                have c30b0 : (a1 == 0) = false := beq_eq_false_iff_ne.mpr c30
                have c30b1 : (a1 != 0) = true := bne_iff_ne.mpr c30
                by_cases c44 : a1 = a0
                · rw [if_pos c44] at H
                  have c44b0 : (a1 == a0) = true := beq_iff_eq.mpr c44
                  have c44b1 : (a1 != a0) = false := bne_eq_false_iff_eq.mpr c44
                  clear c44
                  by_cases c45 : ((rd_T31 t174 3).f1).toList = ([48, 46, 48, 48, 48] : List UInt8)
                  · rw [if_pos c45] at H
                    have c45b0 : (((rd_T31 t174 3).f1).toList == ([48, 46, 48, 48, 48] : List UInt8)) = true := beq_iff_eq.mpr c45
                    have c45b1 : (((rd_T31 t174 3).f1).toList != ([48, 46, 48, 48, 48] : List UInt8)) = false := bne_eq_false_iff_eq.mpr c45
                    clear c45
                    replace H := Option.bind_eq_some_iff.mp H
                    obtain ⟨t180, A460, H⟩ := H
                    replace H : (some t180) = some r := H
                    have A46 := Aside0.mk A460
                    clear A460
                    first
                      | exact absurd ((Option.some.inj H).trans hr_) (by decide)
                      | (obtain rfl := Option.some.inj H
                         clear hr_
                         go_wp2_with (first | ((with_reducible refine gate_dst (N := 37) rfl ?_); refine Kd.R_lit k26 _ 26 ?hg (N := 37) ?hd (xs := ([(⟨1, a0, a2, a1, 0⟩ : S26)] : List (S26))) (inner := [.int .i64 1, .int .i64 a0, .int .i64 a2, .int .i64 a1, .int .i64 0]) (ok := fun _ => True) (okp := fun _ => True) ?hr ?hp (fun _ hk => hk) trivial (Below.refl _ _) (Nat.le_refl _) (by simp) ?_; (case hd => rfl); (case hg => rfl); (case hr => first | (go_simp; done) | (go_simp; rfl)); (case hp => exact (Reps.c5 (show Kd.M k26 _ _ _ (⟨1, a0, a2, a1, 0⟩ : S26) [.int .i64 1, .int .i64 a0, .int .i64 a2, .int .i64 a1, .int .i64 0] from (k26_mkM _ _ _ (⟨1, a0, a2, a1, 0⟩ : S26) )) (Reps.none _ _))); intro v172 w47 ho48 hb hg_ hnew_; clear hg_ hnew_; (first | rw [← Ny171.out] at ho48 | (simp only [Int.reduceToNat] at ho48; rw [← Ny171.out] at ho48)); have n0_ := Aside0.mk (Kd.R_lower ho48 (below_size (by repeat (first | (with_reducible first | exact HB.out | apply below_alloc | apply pw_below_drewN | apply below_drew1) | exact HB.out)))); have n1_ := Aside0.mk (below_step (by repeat (first | (with_reducible first | exact HB.out | apply below_alloc | apply pw_below_drewN | apply below_drew1) | exact HB.out)) hb); clear HB; have HO173 := n0_; have HB := n1_; clear n0_ n1_; clear hb ho48; obtain ⟨Ao49, co49, eo49⟩ := Kd.R_slice HO173.out; subst eo49) | ((with_reducible refine gate_callee (f := 15) rfl ?_); refine goesL_ (some 38) rfl rfl Try.func15 (by kernel_rfl) rfl #[.slice Ao49 y171.length co49] rfl (by (try simp only [List.map_toArray, List.map_cons, List.map_nil]); first | done | rfl | (simp only [List.length_drop, List.length_take]; rfl)) ?_; (with_reducible refine (head_Of.calls kj3 _ _ y171 t174 _ ?side1 ?side2 A13.out).mono ?_); (case side1 => repeat (first | exact (Kd.R_reads' HO173.out).2.2 | (with_reducible refine Kd.C_alloc ?_ _) | (with_reducible refine Kd.C_drewN ?_ _) | (with_reducible refine Kd.C_drew ?_))); (case side2 => exact (Kd.R_reads' HO173.out).2.1); rintro e w50 ⟨v175, rfl, ho0, hb⟩; refine ⟨_, rfl, ?_⟩; have n0_ := Aside0.mk (Kd.R_below (by (with_reducible repeat (first | apply Kd.R_alloc | apply Kd.R_drewN | apply Kd.R_drew)); exact HO173.out) hb); have n1_ := Aside0.mk (Kd.R_lower ho0 (below_size (by repeat (first | (with_reducible first | exact HB.out | apply below_alloc | apply pw_below_drewN | apply below_drew1) | exact HB.out)))); have n2_ := Aside0.mk (below_step (by repeat (first | (with_reducible first | exact HB.out | apply below_alloc | apply pw_below_drewN | apply below_drew1) | exact HB.out)) hb); clear HO173; clear HB; have HO173 := n0_; have HO176 := n1_; have HB := n2_; clear n0_ n1_ n2_; (try clear hb); (try clear hb2); (try clear hk); (try clear hi); (try clear ho0); obtain ⟨Ao51, co51, eo51⟩ := Kd.R_slice HO176.out; subst eo51; have p177 : 0 ≤ (3 : Int) := (by omega); have q177 : 3 < (t174.length : Int) := of_decide_eq_true (by first | (with_reducible assumption) | assumption); obtain ⟨ad177, e177, hx177_0, hx177_1⟩ := at_T31 (Kd.R_reads' HO176.out).2.2 3 p177 q177; cases e177; (try simp only [show (3 : Int).toNat = 3 from rfl, Nat.reduceMul, Nat.reduceEqDiff, Go.Addr.add, ↓reduceIte] at hx177_0); (try simp only [show (3 : Int).toNat = 3 from rfl, Nat.reduceMul, Nat.reduceEqDiff, Go.Addr.add, ↓reduceIte] at hx177_1); have qi177 : (3 < t174.length) = True := eq_true (by omega); (try rw [show ((3 : Int)).toNat = 3 from rfl] at hx177_0); (try rw [show 3 * 2 = 6 from rfl] at hx177_0); (try rw [show ((3 : Int)).toNat = 3 from rfl] at hx177_1); (try rw [show 3 * 2 = 6 from rfl] at hx177_1); replace p177 := eq_true p177; replace q177 := eq_true q177) | (go_at_call 13; (with_reducible refine (turncocklaw28_awake.calls kj3  t180 _ A46.out).mono ?_); rintro e w52 ⟨rfl, hb⟩; have n0_ := Aside0.mk (Kd.R_below (by (with_reducible repeat (first | apply Kd.R_alloc | apply Kd.R_drewN | apply Kd.R_drew)); exact HO173.out) hb); have n1_ := Aside0.mk (Kd.R_below (by (with_reducible repeat (first | apply Kd.R_alloc | apply Kd.R_drewN | apply Kd.R_drew)); exact HO176.out) hb); have n2_ := Aside0.mk (below_step (by repeat (first | (with_reducible first | exact HB.out | apply below_alloc | apply pw_below_drewN | apply below_drew1) | exact HB.out)) hb); clear HO173; clear HO176; clear HB; have HO173 := n0_; have HO176 := n1_; have HB := n2_; clear n0_ n1_ n2_; (try clear hb); (try clear hb2); (try clear hk); (try clear hi)))
                         go_ret
                         exact ⟨by first | rfl | (simp [errW_none, errW_some] <;> rfl) | (simp [*, errW_none, errW_some] <;> rfl), by repeat (first | (with_reducible first | exact HB.out | apply below_alloc | apply pw_below_drewN | apply below_drew1) | exact HB.out)⟩)
                  · rw [if_neg c45] at H
                    have c45b0 : (((rd_T31 t174 3).f1).toList == ([48, 46, 48, 48, 48] : List UInt8)) = false := beq_eq_false_iff_ne.mpr c45
                    have c45b1 : (((rd_T31 t174 3).f1).toList != ([48, 46, 48, 48, 48] : List UInt8)) = true := bne_iff_ne.mpr c45
                    first
                      | exact absurd ((Option.some.inj H).trans hr_) (by decide)
                      | (obtain rfl := Option.some.inj H
                         clear hr_
                         go_wp2_with (first | ((with_reducible refine gate_dst (N := 37) rfl ?_); refine Kd.R_lit k26 _ 26 ?hg (N := 37) ?hd (xs := ([(⟨1, a0, a2, a1, 0⟩ : S26)] : List (S26))) (inner := [.int .i64 1, .int .i64 a0, .int .i64 a2, .int .i64 a1, .int .i64 0]) (ok := fun _ => True) (okp := fun _ => True) ?hr ?hp (fun _ hk => hk) trivial (Below.refl _ _) (Nat.le_refl _) (by simp) ?_; (case hd => rfl); (case hg => rfl); (case hr => first | (go_simp; done) | (go_simp; rfl)); (case hp => exact (Reps.c5 (show Kd.M k26 _ _ _ (⟨1, a0, a2, a1, 0⟩ : S26) [.int .i64 1, .int .i64 a0, .int .i64 a2, .int .i64 a1, .int .i64 0] from (k26_mkM _ _ _ (⟨1, a0, a2, a1, 0⟩ : S26) )) (Reps.none _ _))); intro v172 w53 ho54 hb hg_ hnew_; clear hg_ hnew_; (first | rw [← Ny171.out] at ho54 | (simp only [Int.reduceToNat] at ho54; rw [← Ny171.out] at ho54)); have n0_ := Aside0.mk (Kd.R_lower ho54 (below_size (by repeat (first | (with_reducible first | exact HB.out | apply below_alloc | apply pw_below_drewN | apply below_drew1) | exact HB.out)))); have n1_ := Aside0.mk (below_step (by repeat (first | (with_reducible first | exact HB.out | apply below_alloc | apply pw_below_drewN | apply below_drew1) | exact HB.out)) hb); clear HB; have HO173 := n0_; have HB := n1_; clear n0_ n1_; clear hb ho54; obtain ⟨Ao55, co55, eo55⟩ := Kd.R_slice HO173.out; subst eo55) | ((with_reducible refine gate_callee (f := 15) rfl ?_); refine goesL_ (some 38) rfl rfl Try.func15 (by kernel_rfl) rfl #[.slice Ao55 y171.length co55] rfl (by (try simp only [List.map_toArray, List.map_cons, List.map_nil]); first | done | rfl | (simp only [List.length_drop, List.length_take]; rfl)) ?_; (with_reducible refine (head_Of.calls kj3 _ _ y171 t174 _ ?side1 ?side2 A13.out).mono ?_); (case side1 => repeat (first | exact (Kd.R_reads' HO173.out).2.2 | (with_reducible refine Kd.C_alloc ?_ _) | (with_reducible refine Kd.C_drewN ?_ _) | (with_reducible refine Kd.C_drew ?_))); (case side2 => exact (Kd.R_reads' HO173.out).2.1); rintro e w56 ⟨v175, rfl, ho0, hb⟩; refine ⟨_, rfl, ?_⟩; have n0_ := Aside0.mk (Kd.R_below (by (with_reducible repeat (first | apply Kd.R_alloc | apply Kd.R_drewN | apply Kd.R_drew)); exact HO173.out) hb); have n1_ := Aside0.mk (Kd.R_lower ho0 (below_size (by repeat (first | (with_reducible first | exact HB.out | apply below_alloc | apply pw_below_drewN | apply below_drew1) | exact HB.out)))); have n2_ := Aside0.mk (below_step (by repeat (first | (with_reducible first | exact HB.out | apply below_alloc | apply pw_below_drewN | apply below_drew1) | exact HB.out)) hb); clear HO173; clear HB; have HO173 := n0_; have HO176 := n1_; have HB := n2_; clear n0_ n1_ n2_; (try clear hb); (try clear hb2); (try clear hk); (try clear hi); (try clear ho0); obtain ⟨Ao57, co57, eo57⟩ := Kd.R_slice HO176.out; subst eo57; have p177 : 0 ≤ (3 : Int) := (by omega); have q177 : 3 < (t174.length : Int) := of_decide_eq_true (by first | (with_reducible assumption) | assumption); obtain ⟨ad177, e177, hx177_0, hx177_1⟩ := at_T31 (Kd.R_reads' HO176.out).2.2 3 p177 q177; cases e177; (try simp only [show (3 : Int).toNat = 3 from rfl, Nat.reduceMul, Nat.reduceEqDiff, Go.Addr.add, ↓reduceIte] at hx177_0); (try simp only [show (3 : Int).toNat = 3 from rfl, Nat.reduceMul, Nat.reduceEqDiff, Go.Addr.add, ↓reduceIte] at hx177_1); have qi177 : (3 < t174.length) = True := eq_true (by omega); (try rw [show ((3 : Int)).toNat = 3 from rfl] at hx177_0); (try rw [show 3 * 2 = 6 from rfl] at hx177_0); (try rw [show ((3 : Int)).toNat = 3 from rfl] at hx177_1); (try rw [show 3 * 2 = 6 from rfl] at hx177_1); replace p177 := eq_true p177; replace q177 := eq_true q177))
                         go_ret
                         exact ⟨by first | rfl | (simp [errW_none, errW_some] <;> rfl) | (simp [*, errW_none, errW_some] <;> rfl), by repeat (first | (with_reducible first | exact HB.out | apply below_alloc | apply pw_below_drewN | apply below_drew1) | exact HB.out)⟩)
                · rw [if_neg c44] at H
                  have c44b0 : (a1 == a0) = false := beq_eq_false_iff_ne.mpr c44
                  have c44b1 : (a1 != a0) = true := bne_iff_ne.mpr c44
                  by_cases c58 : (((rd_T31 t174 3).f1).size : Int) = 5
                  · rw [if_pos c58] at H
                    have c58b0 : ((((rd_T31 t174 3).f1).size : Int) == 5) = true := beq_iff_eq.mpr c58
                    have c58b1 : ((((rd_T31 t174 3).f1).size : Int) != 5) = false := bne_eq_false_iff_eq.mpr c58
                    clear c58
                    by_cases c59 : 0 ≤ 2
                    · rw [if_pos c59] at H
                      have c59b0 := eq_true c59
                      have c59b1 : decide (0 ≤ 2) = true := decide_eq_true c59
                      clear c59
                      by_cases c60 : 2 ≤ (((rd_T31 t174 3).f1).size : Int)
                      · rw [if_pos c60] at H
                        have c60b0 := eq_true c60
                        have c60b1 : decide (2 ≤ (((rd_T31 t174 3).f1).size : Int)) = true := decide_eq_true c60
                        clear c60
                        by_cases c61 : (((rd_T31 t174 3).f1).extract 0 2).toList = ([48, 46] : List UInt8)
                        · rw [if_pos c61] at H
                          have c61b0 : ((((rd_T31 t174 3).f1).extract 0 2).toList == ([48, 46] : List UInt8)) = true := beq_iff_eq.mpr c61
                          have c61b1 : ((((rd_T31 t174 3).f1).extract 0 2).toList != ([48, 46] : List UInt8)) = false := bne_eq_false_iff_eq.mpr c61
                          clear c61
                          replace H := Option.bind_eq_some_iff.mp H
                          obtain ⟨t181, A620, H⟩ := H
                          replace H : ((turncockref1_Shown.f kj3 t181).bind fun t182 => (if ((rd_T31 t174 3).f1).toList = t182.toList then ((turncocklaw28_awake.f kj3).bind fun t183 => (some t183)) else (some false))) = some r := H
                          have A62 := Aside0.mk A620
                          clear A620
                          replace H := Option.bind_eq_some_iff.mp H
                          obtain ⟨t182, A630, H⟩ := H
                          replace H : (if ((rd_T31 t174 3).f1).toList = t182.toList then ((turncocklaw28_awake.f kj3).bind fun t183 => (some t183)) else (some false)) = some r := H
                          have A63 := Aside0.mk A630
                          clear A630
                          by_cases c64 : ((rd_T31 t174 3).f1).toList = t182.toList
                          · rw [if_pos c64] at H
                            have c64b0 : (((rd_T31 t174 3).f1).toList == t182.toList) = true := beq_iff_eq.mpr c64
                            have c64b1 : (((rd_T31 t174 3).f1).toList != t182.toList) = false := bne_eq_false_iff_eq.mpr c64
                            clear c64
                            replace H := Option.bind_eq_some_iff.mp H
                            obtain ⟨t183, A650, H⟩ := H
                            replace H : (some t183) = some r := H
                            have A65 := Aside0.mk A650
                            clear A650
                            first
                              | exact absurd ((Option.some.inj H).trans hr_) (by decide)
                              | (obtain rfl := Option.some.inj H
                                 clear hr_
                                 go_wp2_with (first | ((with_reducible refine gate_dst (N := 37) rfl ?_); refine Kd.R_lit k26 _ 26 ?hg (N := 37) ?hd (xs := ([(⟨1, a0, a2, a1, 0⟩ : S26)] : List (S26))) (inner := [.int .i64 1, .int .i64 a0, .int .i64 a2, .int .i64 a1, .int .i64 0]) (ok := fun _ => True) (okp := fun _ => True) ?hr ?hp (fun _ hk => hk) trivial (Below.refl _ _) (Nat.le_refl _) (by simp) ?_; (case hd => rfl); (case hg => rfl); (case hr => first | (go_simp; done) | (go_simp; rfl)); (case hp => exact (Reps.c5 (show Kd.M k26 _ _ _ (⟨1, a0, a2, a1, 0⟩ : S26) [.int .i64 1, .int .i64 a0, .int .i64 a2, .int .i64 a1, .int .i64 0] from (k26_mkM _ _ _ (⟨1, a0, a2, a1, 0⟩ : S26) )) (Reps.none _ _))); intro v172 w66 ho67 hb hg_ hnew_; clear hg_ hnew_; (first | rw [← Ny171.out] at ho67 | (simp only [Int.reduceToNat] at ho67; rw [← Ny171.out] at ho67)); have n0_ := Aside0.mk (Kd.R_lower ho67 (below_size (by repeat (first | (with_reducible first | exact HB.out | apply below_alloc | apply pw_below_drewN | apply below_drew1) | exact HB.out)))); have n1_ := Aside0.mk (below_step (by repeat (first | (with_reducible first | exact HB.out | apply below_alloc | apply pw_below_drewN | apply below_drew1) | exact HB.out)) hb); clear HB; have HO173 := n0_; have HB := n1_; clear n0_ n1_; clear hb ho67; obtain ⟨Ao68, co68, eo68⟩ := Kd.R_slice HO173.out; subst eo68) | ((with_reducible refine gate_callee (f := 15) rfl ?_); refine goesL_ (some 38) rfl rfl Try.func15 (by kernel_rfl) rfl #[.slice Ao68 y171.length co68] rfl (by (try simp only [List.map_toArray, List.map_cons, List.map_nil]); first | done | rfl | (simp only [List.length_drop, List.length_take]; rfl)) ?_; (with_reducible refine (head_Of.calls kj3 _ _ y171 t174 _ ?side1 ?side2 A13.out).mono ?_); (case side1 => repeat (first | exact (Kd.R_reads' HO173.out).2.2 | (with_reducible refine Kd.C_alloc ?_ _) | (with_reducible refine Kd.C_drewN ?_ _) | (with_reducible refine Kd.C_drew ?_))); (case side2 => exact (Kd.R_reads' HO173.out).2.1); rintro e w69 ⟨v175, rfl, ho0, hb⟩; refine ⟨_, rfl, ?_⟩; have n0_ := Aside0.mk (Kd.R_below (by (with_reducible repeat (first | apply Kd.R_alloc | apply Kd.R_drewN | apply Kd.R_drew)); exact HO173.out) hb); have n1_ := Aside0.mk (Kd.R_lower ho0 (below_size (by repeat (first | (with_reducible first | exact HB.out | apply below_alloc | apply pw_below_drewN | apply below_drew1) | exact HB.out)))); have n2_ := Aside0.mk (below_step (by repeat (first | (with_reducible first | exact HB.out | apply below_alloc | apply pw_below_drewN | apply below_drew1) | exact HB.out)) hb); clear HO173; clear HB; have HO173 := n0_; have HO176 := n1_; have HB := n2_; clear n0_ n1_ n2_; (try clear hb); (try clear hb2); (try clear hk); (try clear hi); (try clear ho0); obtain ⟨Ao70, co70, eo70⟩ := Kd.R_slice HO176.out; subst eo70; have p177 : 0 ≤ (3 : Int) := (by omega); have q177 : 3 < (t174.length : Int) := of_decide_eq_true (by first | (with_reducible assumption) | assumption); obtain ⟨ad177, e177, hx177_0, hx177_1⟩ := at_T31 (Kd.R_reads' HO176.out).2.2 3 p177 q177; cases e177; (try simp only [show (3 : Int).toNat = 3 from rfl, Nat.reduceMul, Nat.reduceEqDiff, Go.Addr.add, ↓reduceIte] at hx177_0); (try simp only [show (3 : Int).toNat = 3 from rfl, Nat.reduceMul, Nat.reduceEqDiff, Go.Addr.add, ↓reduceIte] at hx177_1); have qi177 : (3 < t174.length) = True := eq_true (by omega); (try rw [show ((3 : Int)).toNat = 3 from rfl] at hx177_0); (try rw [show 3 * 2 = 6 from rfl] at hx177_0); (try rw [show ((3 : Int)).toNat = 3 from rfl] at hx177_1); (try rw [show 3 * 2 = 6 from rfl] at hx177_1); replace p177 := eq_true p177; replace q177 := eq_true q177) | (go_at_call 20; (with_reducible refine (turncockref1_Of.calls (wrap64 (a0 - a1)) a0 t181 _ A62.out).mono ?_); rintro e w' ⟨zt181, hsz_t1810, rfl, ⟨nd, rfl⟩⟩; have hsz_t181 := Aside0.mk hsz_t1810; clear hsz_t1810) | (go_at_call 19; (with_reducible refine (turncockref1_Shown.calls kj3 zt181 t182 _ (turncockref1_Shown.sim hsz_t181.out A63.out)).mono ?_); rintro e w71 ⟨rfl, hb⟩; have n0_ := Aside0.mk (Kd.R_below (by (with_reducible repeat (first | apply Kd.R_alloc | apply Kd.R_drewN | apply Kd.R_drew)); exact HO173.out) hb); have n1_ := Aside0.mk (Kd.R_below (by (with_reducible repeat (first | apply Kd.R_alloc | apply Kd.R_drewN | apply Kd.R_drew)); exact HO176.out) hb); have n2_ := Aside0.mk (below_step (by repeat (first | (with_reducible first | exact HB.out | apply below_alloc | apply pw_below_drewN | apply below_drew1) | exact HB.out)) hb); clear HO173; clear HO176; clear HB; have HO173 := n0_; have HO176 := n1_; have HB := n2_; clear n0_ n1_ n2_; (try clear hb); (try clear hb2); (try clear hk); (try clear hi)) | (go_at_call 13; (with_reducible refine (turncocklaw28_awake.calls kj3  t183 _ A65.out).mono ?_); rintro e w72 ⟨rfl, hb⟩; have n0_ := Aside0.mk (Kd.R_below (by (with_reducible repeat (first | apply Kd.R_alloc | apply Kd.R_drewN | apply Kd.R_drew)); exact HO173.out) hb); have n1_ := Aside0.mk (Kd.R_below (by (with_reducible repeat (first | apply Kd.R_alloc | apply Kd.R_drewN | apply Kd.R_drew)); exact HO176.out) hb); have n2_ := Aside0.mk (below_step (by repeat (first | (with_reducible first | exact HB.out | apply below_alloc | apply pw_below_drewN | apply below_drew1) | exact HB.out)) hb); clear HO173; clear HO176; clear HB; have HO173 := n0_; have HO176 := n1_; have HB := n2_; clear n0_ n1_ n2_; (try clear hb); (try clear hb2); (try clear hk); (try clear hi)))
                                 go_ret
                                 exact ⟨by first | rfl | (simp [errW_none, errW_some] <;> rfl) | (simp [*, errW_none, errW_some] <;> rfl), by repeat (first | (with_reducible first | exact HB.out | apply below_alloc | apply pw_below_drewN | apply below_drew1) | exact HB.out)⟩)
                          · rw [if_neg c64] at H
                            have c64b0 : (((rd_T31 t174 3).f1).toList == t182.toList) = false := beq_eq_false_iff_ne.mpr c64
                            have c64b1 : (((rd_T31 t174 3).f1).toList != t182.toList) = true := bne_iff_ne.mpr c64
                            exact absurd ((Option.some.inj H).trans hr_) (by decide)
                        · rw [if_neg c61] at H
                          have c61b0 : ((((rd_T31 t174 3).f1).extract 0 2).toList == ([48, 46] : List UInt8)) = false := beq_eq_false_iff_ne.mpr c61
                          have c61b1 : ((((rd_T31 t174 3).f1).extract 0 2).toList != ([48, 46] : List UInt8)) = true := bne_iff_ne.mpr c61
                          first
                            | exact absurd ((Option.some.inj H).trans hr_) (by decide)
                            | (obtain rfl := Option.some.inj H
                               clear hr_
                               go_wp2_with (first | ((with_reducible refine gate_dst (N := 37) rfl ?_); refine Kd.R_lit k26 _ 26 ?hg (N := 37) ?hd (xs := ([(⟨1, a0, a2, a1, 0⟩ : S26)] : List (S26))) (inner := [.int .i64 1, .int .i64 a0, .int .i64 a2, .int .i64 a1, .int .i64 0]) (ok := fun _ => True) (okp := fun _ => True) ?hr ?hp (fun _ hk => hk) trivial (Below.refl _ _) (Nat.le_refl _) (by simp) ?_; (case hd => rfl); (case hg => rfl); (case hr => first | (go_simp; done) | (go_simp; rfl)); (case hp => exact (Reps.c5 (show Kd.M k26 _ _ _ (⟨1, a0, a2, a1, 0⟩ : S26) [.int .i64 1, .int .i64 a0, .int .i64 a2, .int .i64 a1, .int .i64 0] from (k26_mkM _ _ _ (⟨1, a0, a2, a1, 0⟩ : S26) )) (Reps.none _ _))); intro v172 w79 ho80 hb hg_ hnew_; clear hg_ hnew_; (first | rw [← Ny171.out] at ho80 | (simp only [Int.reduceToNat] at ho80; rw [← Ny171.out] at ho80)); have n0_ := Aside0.mk (Kd.R_lower ho80 (below_size (by repeat (first | (with_reducible first | exact HB.out | apply below_alloc | apply pw_below_drewN | apply below_drew1) | exact HB.out)))); have n1_ := Aside0.mk (below_step (by repeat (first | (with_reducible first | exact HB.out | apply below_alloc | apply pw_below_drewN | apply below_drew1) | exact HB.out)) hb); clear HB; have HO173 := n0_; have HB := n1_; clear n0_ n1_; clear hb ho80; obtain ⟨Ao81, co81, eo81⟩ := Kd.R_slice HO173.out; subst eo81) | ((with_reducible refine gate_callee (f := 15) rfl ?_); refine goesL_ (some 38) rfl rfl Try.func15 (by kernel_rfl) rfl #[.slice Ao81 y171.length co81] rfl (by (try simp only [List.map_toArray, List.map_cons, List.map_nil]); first | done | rfl | (simp only [List.length_drop, List.length_take]; rfl)) ?_; (with_reducible refine (head_Of.calls kj3 _ _ y171 t174 _ ?side1 ?side2 A13.out).mono ?_); (case side1 => repeat (first | exact (Kd.R_reads' HO173.out).2.2 | (with_reducible refine Kd.C_alloc ?_ _) | (with_reducible refine Kd.C_drewN ?_ _) | (with_reducible refine Kd.C_drew ?_))); (case side2 => exact (Kd.R_reads' HO173.out).2.1); rintro e w82 ⟨v175, rfl, ho0, hb⟩; refine ⟨_, rfl, ?_⟩; have n0_ := Aside0.mk (Kd.R_below (by (with_reducible repeat (first | apply Kd.R_alloc | apply Kd.R_drewN | apply Kd.R_drew)); exact HO173.out) hb); have n1_ := Aside0.mk (Kd.R_lower ho0 (below_size (by repeat (first | (with_reducible first | exact HB.out | apply below_alloc | apply pw_below_drewN | apply below_drew1) | exact HB.out)))); have n2_ := Aside0.mk (below_step (by repeat (first | (with_reducible first | exact HB.out | apply below_alloc | apply pw_below_drewN | apply below_drew1) | exact HB.out)) hb); clear HO173; clear HB; have HO173 := n0_; have HO176 := n1_; have HB := n2_; clear n0_ n1_ n2_; (try clear hb); (try clear hb2); (try clear hk); (try clear hi); (try clear ho0); obtain ⟨Ao83, co83, eo83⟩ := Kd.R_slice HO176.out; subst eo83; have p177 : 0 ≤ (3 : Int) := (by omega); have q177 : 3 < (t174.length : Int) := of_decide_eq_true (by first | (with_reducible assumption) | assumption); obtain ⟨ad177, e177, hx177_0, hx177_1⟩ := at_T31 (Kd.R_reads' HO176.out).2.2 3 p177 q177; cases e177; (try simp only [show (3 : Int).toNat = 3 from rfl, Nat.reduceMul, Nat.reduceEqDiff, Go.Addr.add, ↓reduceIte] at hx177_0); (try simp only [show (3 : Int).toNat = 3 from rfl, Nat.reduceMul, Nat.reduceEqDiff, Go.Addr.add, ↓reduceIte] at hx177_1); have qi177 : (3 < t174.length) = True := eq_true (by omega); (try rw [show ((3 : Int)).toNat = 3 from rfl] at hx177_0); (try rw [show 3 * 2 = 6 from rfl] at hx177_0); (try rw [show ((3 : Int)).toNat = 3 from rfl] at hx177_1); (try rw [show 3 * 2 = 6 from rfl] at hx177_1); replace p177 := eq_true p177; replace q177 := eq_true q177))
                               go_ret
                               exact ⟨by first | rfl | (simp [errW_none, errW_some] <;> rfl) | (simp [*, errW_none, errW_some] <;> rfl), by repeat (first | (with_reducible first | exact HB.out | apply below_alloc | apply pw_below_drewN | apply below_drew1) | exact HB.out)⟩)
                      · rw [if_neg c60] at H
                        exact absurd H (by simp)
                    · rw [if_neg c59] at H
                      exact absurd H (by simp)
                  · rw [if_neg c58] at H
                    have c58b0 : ((((rd_T31 t174 3).f1).size : Int) == 5) = false := beq_eq_false_iff_ne.mpr c58
                    have c58b1 : ((((rd_T31 t174 3).f1).size : Int) != 5) = true := bne_iff_ne.mpr c58
                    first
                      | exact absurd ((Option.some.inj H).trans hr_) (by decide)
                      | (obtain rfl := Option.some.inj H
                         clear hr_
                         go_wp2_with (first | ((with_reducible refine gate_dst (N := 37) rfl ?_); refine Kd.R_lit k26 _ 26 ?hg (N := 37) ?hd (xs := ([(⟨1, a0, a2, a1, 0⟩ : S26)] : List (S26))) (inner := [.int .i64 1, .int .i64 a0, .int .i64 a2, .int .i64 a1, .int .i64 0]) (ok := fun _ => True) (okp := fun _ => True) ?hr ?hp (fun _ hk => hk) trivial (Below.refl _ _) (Nat.le_refl _) (by simp) ?_; (case hd => rfl); (case hg => rfl); (case hr => first | (go_simp; done) | (go_simp; rfl)); (case hp => exact (Reps.c5 (show Kd.M k26 _ _ _ (⟨1, a0, a2, a1, 0⟩ : S26) [.int .i64 1, .int .i64 a0, .int .i64 a2, .int .i64 a1, .int .i64 0] from (k26_mkM _ _ _ (⟨1, a0, a2, a1, 0⟩ : S26) )) (Reps.none _ _))); intro v172 w84 ho85 hb hg_ hnew_; clear hg_ hnew_; (first | rw [← Ny171.out] at ho85 | (simp only [Int.reduceToNat] at ho85; rw [← Ny171.out] at ho85)); have n0_ := Aside0.mk (Kd.R_lower ho85 (below_size (by repeat (first | (with_reducible first | exact HB.out | apply below_alloc | apply pw_below_drewN | apply below_drew1) | exact HB.out)))); have n1_ := Aside0.mk (below_step (by repeat (first | (with_reducible first | exact HB.out | apply below_alloc | apply pw_below_drewN | apply below_drew1) | exact HB.out)) hb); clear HB; have HO173 := n0_; have HB := n1_; clear n0_ n1_; clear hb ho85; obtain ⟨Ao86, co86, eo86⟩ := Kd.R_slice HO173.out; subst eo86) | ((with_reducible refine gate_callee (f := 15) rfl ?_); refine goesL_ (some 38) rfl rfl Try.func15 (by kernel_rfl) rfl #[.slice Ao86 y171.length co86] rfl (by (try simp only [List.map_toArray, List.map_cons, List.map_nil]); first | done | rfl | (simp only [List.length_drop, List.length_take]; rfl)) ?_; (with_reducible refine (head_Of.calls kj3 _ _ y171 t174 _ ?side1 ?side2 A13.out).mono ?_); (case side1 => repeat (first | exact (Kd.R_reads' HO173.out).2.2 | (with_reducible refine Kd.C_alloc ?_ _) | (with_reducible refine Kd.C_drewN ?_ _) | (with_reducible refine Kd.C_drew ?_))); (case side2 => exact (Kd.R_reads' HO173.out).2.1); rintro e w87 ⟨v175, rfl, ho0, hb⟩; refine ⟨_, rfl, ?_⟩; have n0_ := Aside0.mk (Kd.R_below (by (with_reducible repeat (first | apply Kd.R_alloc | apply Kd.R_drewN | apply Kd.R_drew)); exact HO173.out) hb); have n1_ := Aside0.mk (Kd.R_lower ho0 (below_size (by repeat (first | (with_reducible first | exact HB.out | apply below_alloc | apply pw_below_drewN | apply below_drew1) | exact HB.out)))); have n2_ := Aside0.mk (below_step (by repeat (first | (with_reducible first | exact HB.out | apply below_alloc | apply pw_below_drewN | apply below_drew1) | exact HB.out)) hb); clear HO173; clear HB; have HO173 := n0_; have HO176 := n1_; have HB := n2_; clear n0_ n1_ n2_; (try clear hb); (try clear hb2); (try clear hk); (try clear hi); (try clear ho0); obtain ⟨Ao88, co88, eo88⟩ := Kd.R_slice HO176.out; subst eo88; have p177 : 0 ≤ (3 : Int) := (by omega); have q177 : 3 < (t174.length : Int) := of_decide_eq_true (by first | (with_reducible assumption) | assumption); obtain ⟨ad177, e177, hx177_0, hx177_1⟩ := at_T31 (Kd.R_reads' HO176.out).2.2 3 p177 q177; cases e177; (try simp only [show (3 : Int).toNat = 3 from rfl, Nat.reduceMul, Nat.reduceEqDiff, Go.Addr.add, ↓reduceIte] at hx177_0); (try simp only [show (3 : Int).toNat = 3 from rfl, Nat.reduceMul, Nat.reduceEqDiff, Go.Addr.add, ↓reduceIte] at hx177_1); have qi177 : (3 < t174.length) = True := eq_true (by omega); (try rw [show ((3 : Int)).toNat = 3 from rfl] at hx177_0); (try rw [show 3 * 2 = 6 from rfl] at hx177_0); (try rw [show ((3 : Int)).toNat = 3 from rfl] at hx177_1); (try rw [show 3 * 2 = 6 from rfl] at hx177_1); replace p177 := eq_true p177; replace q177 := eq_true q177))
                         go_ret
                         exact ⟨by first | rfl | (simp [errW_none, errW_some] <;> rfl) | (simp [*, errW_none, errW_some] <;> rfl), by repeat (first | (with_reducible first | exact HB.out | apply below_alloc | apply pw_below_drewN | apply below_drew1) | exact HB.out)⟩)
          · rw [if_neg c15] at H
            exact absurd H (by simp)
        · rw [if_neg c14] at H
          have c14b0 : ((t174.length : Int) == 4) = false := beq_eq_false_iff_ne.mpr c14
          have c14b1 : ((t174.length : Int) != 4) = true := bne_iff_ne.mpr c14
          exact absurd ((Option.some.inj H).trans hr_) (by decide)

/-- THE ONE PURE STATEMENT of turncocklaw28_HeadLoads: yours. -/
def turncocklaw28_HeadLoads.Pure : Prop := ∀ (a0 : Int) (a1 : Int) (a2 : Int), (Lit.int .i64 a0).wf = true → (Lit.int .i64 a1).wf = true → (Lit.int .i64 a2).wf = true → ∃ k, turncocklaw28_HeadLoads.f k a0 a1 a2 = some true
theorem turncocklaw28_HeadLoads.walk (P : turncocklaw28_HeadLoads.Pure) (a0 : Int) (a1 : Int) (a2 : Int) (w : World) (w0 : (Lit.int .i64 a0).wf = true) (w1 : (Lit.int .i64 a1).wf = true) (w2 : (Lit.int .i64 a2).wf = true) :
    Calls Try.prog 5 #[.int .i64 a0, .int .i64 a1, .int .i64 a2] w fun e w' => e = .returned (.bool true) ∧ Below w.heap.size w w' := by
  obtain ⟨k, h⟩ := P a0 a1 a2 w0 w1 w2
  refine (turncocklaw28_HeadLoads.calls k a0 a1 a2 true w h rfl).mono ?_
  rintro e w' ⟨rfl, hd⟩
  exact ⟨rfl, hd⟩

end Go.Proofs.Ytoopmkinpandfaa.PHeadLoads
