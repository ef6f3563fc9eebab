-- PRINTED BY print.sh 35421559b90ae4d0a3588c463048766b98c2df88dd9212a6774a882060cdf62d: not written by this session
import Derived.Test.YtjiaombbjmhmoaaPUnitWindowsx0
import Derived.Test.YtjiaombbjmhmoaaPUnitWindowsx1
namespace Go.Proofs.Ytjiaombbjmhmoaa.PUnitWindows
open Go.RowKit Go.Proofs.YtjiaombbjmhmoaaW.PrintWords Go.Proofs.YtjiaombbjmhmoaaW.PrintLast Go.Proofs.YtjiaombbjmhmoaaW.PrintMore
attribute [local go_sem] max2_int min2_int max_two min_two max_three min_three max_four min_four   -- for this text's walks alone
set_option linter.unusedVariables false
set_option linter.unusedSimpArgs false

/-! ### turncocklaw15_UnitWindows: function 7 -/
mutual
def turncocklaw15_UnitWindows.j0 : Nat → Int → Int → Int → Int → Int → Int → Bool → Option (Bool)
  | 0, _, _, _, _, _, _, _ => none
  | k + 1, x0, x1, x2, x7, x10, x11, x71 => if x71 = true then (some false) else (if (wrap64 (x7 + (mx (mn x2 (wrap64 (x11 - 1))) 0))) > 4611686018427387904 then (turncocklaw15_UnitWindows.j1 k x0 x1 x7 x10 (mx (mn x2 (wrap64 (x11 - 1))) 0) true) else (turncocklaw15_UnitWindows.j1 k x0 x1 x7 x10 (mx (mn x2 (wrap64 (x11 - 1))) 0) (decide (x10 > 4611686018427387904))))
def turncocklaw15_UnitWindows.j1 : Nat → Int → Int → Int → Int → Int → Bool → Option (Bool)
  | 0, _, _, _, _, _, _ => none
  | k + 1, x0, x1, x7, x10, x12, x84 => if x84 = true then ((turncocklaw15_awake.f k).bind fun t148 => (some t148)) else ((unit_Window.f (wrap64 (x7 + x12)) x1).bind fun t149 => ((unit_Window.f x0 x1).bind fun t150 => (if t149 = t150 then ((unit_Window.f x10 x1).bind fun t151 => ((unit_Window.f x0 x1).bind fun t152 => (if t151 = (wrap64 (t152 + 1)) then ((unit_Start.f x10 x1).bind fun t153 => (if t153 = x10 then ((turncocklaw15_awake.f k).bind fun t154 => (some t154)) else (some false))) else (some false)))) else (some false))))
end
def turncocklaw15_UnitWindows.f (k : Nat) (a0 : Int) (a1 : Int) (a2 : Int) : Option (Bool) := (turncockref1_Hold.f a0).bind fun t140 => ((unit_Secs.f a1).bind fun t141 => (if t141 = 0 then ((unit_Window.f a0 a1).bind fun t142 => (if t142 = 0 then ((unit_End.f a0 a1).bind fun t143 => (if t143 = 0 then ((turncocklaw15_awake.f k).bind fun t144 => (some t144)) else (some false))) else (some false))) else ((unit_Start.f a0 a1).bind fun t145 => ((unit_End.f a0 a1).bind fun t146 => ((unit_Reset.f a0 a1).bind fun t147 => (if t145 > t140 then (turncocklaw15_UnitWindows.j0 k a0 a1 a2 t140 t146 t147 true) else (if t146 ≤ t140 then (turncocklaw15_UnitWindows.j0 k a0 a1 a2 t140 t146 t147 true) else (if (wrap64 (t146 - t145)) = t141 then (if t147 = (wrap64 (t146 - t140)) then (if t147 < 1 then (turncocklaw15_UnitWindows.j0 k a0 a1 a2 t140 t146 t147 true) else (turncocklaw15_UnitWindows.j0 k a0 a1 a2 t140 t146 t147 (decide (t147 > t141)))) else (turncocklaw15_UnitWindows.j0 k a0 a1 a2 t140 t146 t147 true)) else (turncocklaw15_UnitWindows.j0 k a0 a1 a2 t140 t146 t147 true)))))))))
theorem turncocklaw15_UnitWindows.mono_l : ∀ k, (∀ y0 y1 y2 y3 y4 y5 y6, LeO (turncocklaw15_UnitWindows.j0 k y0 y1 y2 y3 y4 y5 y6) (turncocklaw15_UnitWindows.j0 (k + 1) y0 y1 y2 y3 y4 y5 y6)) ∧ (∀ y0 y1 y2 y3 y4 y5, LeO (turncocklaw15_UnitWindows.j1 k y0 y1 y2 y3 y4 y5) (turncocklaw15_UnitWindows.j1 (k + 1) y0 y1 y2 y3 y4 y5))
  | 0 => ⟨fun _ _ _ _ _ _ _ r h => by simp [turncocklaw15_UnitWindows.j0] at h, fun _ _ _ _ _ _ r h => by simp [turncocklaw15_UnitWindows.j1] at h⟩
  | k + 1 => by
    obtain ⟨ih0, ih1⟩ := turncocklaw15_UnitWindows.mono_l k
    refine ⟨?_, ?_⟩
    · intro y0 y1 y2 y3 y4 y5 y6
      unfold turncocklaw15_UnitWindows.j0
      repeat' first
      | (with_reducible exact ih0 _ _ _ _ _ _ _)
      | (with_reducible exact ih1 _ _ _ _ _ _)
      | (with_reducible exact turncocklaw15_awake.mono _)
      | (with_reducible exact LeO.refl _)
      | (with_reducible exact LeO.none _)
      | (with_reducible refine LeO.ite ?_ ?_)
      | (with_reducible refine LeO.bind ?_ (fun _ => ?_))
      | exact ih0 _ _ _ _ _ _ _
      | exact ih1 _ _ _ _ _ _
      | exact turncocklaw15_awake.mono _
      | exact LeO.none _
      | refine LeO.ite ?_ ?_
      | refine LeO.bind ?_ (fun _ => ?_)
    · intro y0 y1 y2 y3 y4 y5
      unfold turncocklaw15_UnitWindows.j1
      repeat' first
      | (with_reducible exact ih0 _ _ _ _ _ _ _)
      | (with_reducible exact ih1 _ _ _ _ _ _)
      | (with_reducible exact turncocklaw15_awake.mono _)
      | (with_reducible exact LeO.refl _)
      | (with_reducible exact LeO.none _)
      | (with_reducible refine LeO.ite ?_ ?_)
      | (with_reducible refine LeO.bind ?_ (fun _ => ?_))
      | exact ih0 _ _ _ _ _ _ _
      | exact ih1 _ _ _ _ _ _
      | exact turncocklaw15_awake.mono _
      | exact LeO.none _
      | refine LeO.ite ?_ ?_
      | refine LeO.bind ?_ (fun _ => ?_)
theorem turncocklaw15_UnitWindows.mono : ∀ a0 a1 a2 k, LeO (turncocklaw15_UnitWindows.f k a0 a1 a2) (turncocklaw15_UnitWindows.f (k + 1) a0 a1 a2) := by
  intro a0 a1 a2 k
  obtain ⟨ih0, ih1⟩ := turncocklaw15_UnitWindows.mono_l k
  unfold turncocklaw15_UnitWindows.f
  repeat' first
      | (with_reducible exact ih0 _ _ _ _ _ _ _)
      | (with_reducible exact ih1 _ _ _ _ _ _)
      | (with_reducible exact turncocklaw15_awake.mono _)
      | (with_reducible exact LeO.refl _)
      | (with_reducible exact LeO.none _)
      | (with_reducible refine LeO.ite ?_ ?_)
      | (with_reducible refine LeO.bind ?_ (fun _ => ?_))
      | exact ih0 _ _ _ _ _ _ _
      | exact ih1 _ _ _ _ _ _
      | exact turncocklaw15_awake.mono _
      | exact LeO.none _
      | refine LeO.ite ?_ ?_
      | refine LeO.bind ?_ (fun _ => ?_)
set_option maxHeartbeats 8000000 in
set_option maxRecDepth 100000 in
theorem turncocklaw15_UnitWindows.calls (k : Nat) (a0 : Int) (a1 : Int) (a2 : Int) (r : Bool) (w : World) (h : turncocklaw15_UnitWindows.f k a0 a1 a2 = some r) :
    Calls Try.prog 7 #[.int .i64 a0, .int .i64 a1, .int .i64 a2] w fun e w' => e = .returned (.bool r) ∧ Below w.heap.size w w' := by
  have HB := Aside0.mk (Below.refl w.heap.size w)
  have H : ((turncockref1_Hold.f a0).bind fun t140 => ((unit_Secs.f a1).bind fun t141 => (if t141 = 0 then ((unit_Window.f a0 a1).bind fun t142 => (if t142 = 0 then ((unit_End.f a0 a1).bind fun t143 => (if t143 = 0 then ((turncocklaw15_awake.f k).bind fun t144 => (some t144)) else (some false))) else (some false))) else ((unit_Start.f a0 a1).bind fun t145 => ((unit_End.f a0 a1).bind fun t146 => ((unit_Reset.f a0 a1).bind fun t147 => (if t145 > t140 then (turncocklaw15_UnitWindows.j0 k a0 a1 a2 t140 t146 t147 true) else (if t146 ≤ t140 then (turncocklaw15_UnitWindows.j0 k a0 a1 a2 t140 t146 t147 true) else (if (wrap64 (t146 - t145)) = t141 then (if t147 = (wrap64 (t146 - t140)) then (if t147 < 1 then (turncocklaw15_UnitWindows.j0 k a0 a1 a2 t140 t146 t147 true) else (turncocklaw15_UnitWindows.j0 k a0 a1 a2 t140 t146 t147 (decide (t147 > t141)))) else (turncocklaw15_UnitWindows.j0 k a0 a1 a2 t140 t146 t147 true)) else (turncocklaw15_UnitWindows.j0 k a0 a1 a2 t140 t146 t147 true)))))))))) = some r := h
  clear h
  replace H := Option.bind_eq_some_iff.mp H
  obtain ⟨t140, A40, H⟩ := H
  replace H : ((unit_Secs.f a1).bind fun t141 => (if t141 = 0 then ((unit_Window.f a0 a1).bind fun t142 => (if t142 = 0 then ((unit_End.f a0 a1).bind fun t143 => (if t143 = 0 then ((turncocklaw15_awake.f k).bind fun t144 => (some t144)) else (some false))) else (some false))) else ((unit_Start.f a0 a1).bind fun t145 => ((unit_End.f a0 a1).bind fun t146 => ((unit_Reset.f a0 a1).bind fun t147 => (if t145 > t140 then (turncocklaw15_UnitWindows.j0 k a0 a1 a2 t140 t146 t147 true) else (if t146 ≤ t140 then (turncocklaw15_UnitWindows.j0 k a0 a1 a2 t140 t146 t147 true) else (if (wrap64 (t146 - t145)) = t141 then (if t147 = (wrap64 (t146 - t140)) then (if t147 < 1 then (turncocklaw15_UnitWindows.j0 k a0 a1 a2 t140 t146 t147 true) else (turncocklaw15_UnitWindows.j0 k a0 a1 a2 t140 t146 t147 (decide (t147 > t141)))) else (turncocklaw15_UnitWindows.j0 k a0 a1 a2 t140 t146 t147 true)) else (turncocklaw15_UnitWindows.j0 k a0 a1 a2 t140 t146 t147 true))))))))) = some r := H
  have A4 := Aside0.mk A40
  clear A40
  replace H := Option.bind_eq_some_iff.mp H
  obtain ⟨t141, A50, H⟩ := H
  replace H : (if t141 = 0 then ((unit_Window.f a0 a1).bind fun t142 => (if t142 = 0 then ((unit_End.f a0 a1).bind fun t143 => (if t143 = 0 then ((turncocklaw15_awake.f k).bind fun t144 => (some t144)) else (some false))) else (some false))) else ((unit_Start.f a0 a1).bind fun t145 => ((unit_End.f a0 a1).bind fun t146 => ((unit_Reset.f a0 a1).bind fun t147 => (if t145 > t140 then (turncocklaw15_UnitWindows.j0 k a0 a1 a2 t140 t146 t147 true) else (if t146 ≤ t140 then (turncocklaw15_UnitWindows.j0 k a0 a1 a2 t140 t146 t147 true) else (if (wrap64 (t146 - t145)) = t141 then (if t147 = (wrap64 (t146 - t140)) then (if t147 < 1 then (turncocklaw15_UnitWindows.j0 k a0 a1 a2 t140 t146 t147 true) else (turncocklaw15_UnitWindows.j0 k a0 a1 a2 t140 t146 t147 (decide (t147 > t141)))) else (turncocklaw15_UnitWindows.j0 k a0 a1 a2 t140 t146 t147 true)) else (turncocklaw15_UnitWindows.j0 k a0 a1 a2 t140 t146 t147 true)))))))) = some r := H
  have A5 := Aside0.mk A50
  clear A50
  by_cases c6 : t141 = 0
  · rw [if_pos c6] at H
    have c6b0 : (t141 == 0) = true := beq_iff_eq.mpr c6
    have c6b1 : (t141 != 0) = false := bne_eq_false_iff_eq.mpr c6
    clear c6
    replace H := Option.bind_eq_some_iff.mp H
    obtain ⟨t142, A70, H⟩ := H
    replace H : (if t142 = 0 then ((unit_End.f a0 a1).bind fun t143 => (if t143 = 0 then ((turncocklaw15_awake.f k).bind fun t144 => (some t144)) else (some false))) else (some false)) = some r := H
    have A7 := Aside0.mk A70
    clear A70
    by_cases c8 : t142 = 0
    · rw [if_pos c8] at H
      have c8b0 : (t142 == 0) = true := beq_iff_eq.mpr c8
      have c8b1 : (t142 != 0) = false := bne_eq_false_iff_eq.mpr c8
      clear c8
      replace H := Option.bind_eq_some_iff.mp H
      obtain ⟨t143, A90, H⟩ := H
      replace H : (if t143 = 0 then ((turncocklaw15_awake.f k).bind fun t144 => (some t144)) else (some false)) = some r := H
      have A9 := Aside0.mk A90
      clear A90
      by_cases c10 : t143 = 0
      · rw [if_pos c10] at H
        have c10b0 : (t143 == 0) = true := beq_iff_eq.mpr c10
        have c10b1 : (t143 != 0) = false := bne_eq_false_iff_eq.mpr c10
        clear c10
        replace H := Option.bind_eq_some_iff.mp H
        obtain ⟨t144, A110, H⟩ := H
        replace H : (some t144) = some r := H
        have A11 := Aside0.mk A110
        clear A110
        obtain rfl := Option.some.inj H
        go_enter Try.func7, Try.ntmps7
        go_wp2_with (first | ((with_reducible refine gate_callee (f := 33) rfl ?_); refine goesL_ (some 14) rfl rfl Try.func33 (by kernel_rfl) rfl #[.int .i64 a0] rfl (by (try simp only [List.map_toArray, List.map_cons, List.map_nil]); first | done | rfl | (simp only [List.length_drop, List.length_take]; rfl)) ?_; (with_reducible refine (turncockref1_Hold.calls a0 t140 _ A4.out).mono ?_); rintro e w' ⟨rfl, ⟨nd, rfl⟩⟩; refine ⟨_, rfl, ?_⟩) | ((with_reducible refine gate_callee (f := 20) rfl ?_); refine goesL_ (some 16) rfl rfl Try.func20 (by kernel_rfl) rfl #[.int .i64 a1] rfl (by (try simp only [List.map_toArray, List.map_cons, List.map_nil]); first | done | rfl | (simp only [List.length_drop, List.length_take]; rfl)) ?_; (with_reducible refine (unit_Secs.calls a1 t141 _ A5.out).mono ?_); rintro e w12 ⟨rfl, hb⟩; refine ⟨_, rfl, ?_⟩; have n0_ := Aside0.mk (below_step (by repeat (first | (with_reducible first | exact HB.out | apply below_alloc | apply pw_below_drewN | apply below_drew1) | exact HB.out)) hb); clear HB; have HB := n0_; clear n0_; (try clear hb); (try clear hb2); (try clear hk); (try clear hi)) | ((with_reducible refine gate_callee (f := 24) rfl ?_); refine goesL_ (some 21) rfl rfl Try.func24 (by kernel_rfl) rfl #[.int .i64 a0, .int .i64 a1] rfl (by (try simp only [List.map_toArray, List.map_cons, List.map_nil]); first | done | rfl | (simp only [List.length_drop, List.length_take]; rfl)) ?_; (with_reducible refine (unit_Window.calls a0 a1 t142 _ A7.out).mono ?_); rintro e w13 ⟨rfl, hb⟩; refine ⟨_, rfl, ?_⟩; have n0_ := Aside0.mk (below_step (by repeat (first | (with_reducible first | exact HB.out | apply below_alloc | apply pw_below_drewN | apply below_drew1) | exact HB.out)) hb); clear HB; have HB := n0_; clear n0_; (try clear hb); (try clear hb2); (try clear hk); (try clear hi)) | (go_at_call 28; (with_reducible refine (unit_End.calls a0 a1 t143 _ A9.out).mono ?_); rintro e w14 ⟨rfl, hb⟩; have n0_ := Aside0.mk (below_step (by repeat (first | (with_reducible first | exact HB.out | apply below_alloc | apply pw_below_drewN | apply below_drew1) | exact HB.out)) hb); clear HB; have HB := n0_; clear n0_; (try clear hb); (try clear hb2); (try clear hk); (try clear hi)) | (go_at_call 32; (with_reducible refine (turncocklaw15_awake.calls k  t144 _ A11.out).mono ?_); rintro e w15 ⟨rfl, hb⟩; have n0_ := Aside0.mk (below_step (by repeat (first | (with_reducible first | exact HB.out | apply below_alloc | apply pw_below_drewN | apply below_drew1) | exact HB.out)) hb); clear HB; have HB := n0_; clear n0_; (try clear hb); (try clear hb2); (try clear hk); (try clear hi)))
        go_ret
        exact ⟨by first | rfl | (simp [errW_none, errW_some] <;> rfl) | (simp [*, errW_none, errW_some] <;> rfl), by repeat (first | (with_reducible first | exact HB.out | apply below_alloc | apply pw_below_drewN | apply below_drew1) | exact HB.out)⟩
      · rw [if_neg c10] at H
        have c10b0 : (t143 == 0) = false := beq_eq_false_iff_ne.mpr c10
        have c10b1 : (t143 != 0) = true := bne_iff_ne.mpr c10
        obtain rfl := Option.some.inj H
        go_enter Try.func7, Try.ntmps7
        go_wp2_with (first | ((with_reducible refine gate_callee (f := 33) rfl ?_); refine goesL_ (some 14) rfl rfl Try.func33 (by kernel_rfl) rfl #[.int .i64 a0] rfl (by (try simp only [List.map_toArray, List.map_cons, List.map_nil]); first | done | rfl | (simp only [List.length_drop, List.length_take]; rfl)) ?_; (with_reducible refine (turncockref1_Hold.calls a0 t140 _ A4.out).mono ?_); rintro e w' ⟨rfl, ⟨nd, rfl⟩⟩; refine ⟨_, rfl, ?_⟩) | ((with_reducible refine gate_callee (f := 20) rfl ?_); refine goesL_ (some 16) rfl rfl Try.func20 (by kernel_rfl) rfl #[.int .i64 a1] rfl (by (try simp only [List.map_toArray, List.map_cons, List.map_nil]); first | done | rfl | (simp only [List.length_drop, List.length_take]; rfl)) ?_; (with_reducible refine (unit_Secs.calls a1 t141 _ A5.out).mono ?_); rintro e w16 ⟨rfl, hb⟩; refine ⟨_, rfl, ?_⟩; have n0_ := Aside0.mk (below_step (by repeat (first | (with_reducible first | exact HB.out | apply below_alloc | apply pw_below_drewN | apply below_drew1) | exact HB.out)) hb); clear HB; have HB := n0_; clear n0_; (try clear hb); (try clear hb2); (try clear hk); (try clear hi)) | ((with_reducible refine gate_callee (f := 24) rfl ?_); refine goesL_ (some 21) rfl rfl Try.func24 (by kernel_rfl) rfl #[.int .i64 a0, .int .i64 a1] rfl (by (try simp only [List.map_toArray, List.map_cons, List.map_nil]); first | done | rfl | (simp only [List.length_drop, List.length_take]; rfl)) ?_; (with_reducible refine (unit_Window.calls a0 a1 t142 _ A7.out).mono ?_); rintro e w17 ⟨rfl, hb⟩; refine ⟨_, rfl, ?_⟩; have n0_ := Aside0.mk (below_step (by repeat (first | (with_reducible first | exact HB.out | apply below_alloc | apply pw_below_drewN | apply below_drew1) | exact HB.out)) hb); clear HB; have HB := n0_; clear n0_; (try clear hb); (try clear hb2); (try clear hk); (try clear hi)) | (go_at_call 28; (with_reducible refine (unit_End.calls a0 a1 t143 _ A9.out).mono ?_); rintro e w18 ⟨rfl, hb⟩; have n0_ := Aside0.mk (below_step (by repeat (first | (with_reducible first | exact HB.out | apply below_alloc | apply pw_below_drewN | apply below_drew1) | exact HB.out)) hb); clear HB; have HB := n0_; clear n0_; (try clear hb); (try clear hb2); (try clear hk); (try clear hi)))
        go_ret
        exact ⟨by first | rfl | (simp [errW_none, errW_some] <;> rfl) | (simp [*, errW_none, errW_some] <;> rfl), by repeat (first | (with_reducible first | exact HB.out | apply below_alloc | apply pw_below_drewN | apply below_drew1) | exact HB.out)⟩
    · rw [if_neg c8] at H
      have c8b0 : (t142 == 0) = false := beq_eq_false_iff_ne.mpr c8
      have c8b1 : (t142 != 0) = true := bne_iff_ne.mpr c8
      obtain rfl := Option.some.inj H
      go_enter Try.func7, Try.ntmps7
      go_wp2_with (first | ((with_reducible refine gate_callee (f := 33) rfl ?_); refine goesL_ (some 14) rfl rfl Try.func33 (by kernel_rfl) rfl #[.int .i64 a0] rfl (by (try simp only [List.map_toArray, List.map_cons, List.map_nil]); first | done | rfl | (simp only [List.length_drop, List.length_take]; rfl)) ?_; (with_reducible refine (turncockref1_Hold.calls a0 t140 _ A4.out).mono ?_); rintro e w' ⟨rfl, ⟨nd, rfl⟩⟩; refine ⟨_, rfl, ?_⟩) | ((with_reducible refine gate_callee (f := 20) rfl ?_); refine goesL_ (some 16) rfl rfl Try.func20 (by kernel_rfl) rfl #[.int .i64 a1] rfl (by (try simp only [List.map_toArray, List.map_cons, List.map_nil]); first | done | rfl | (simp only [List.length_drop, List.length_take]; rfl)) ?_; (with_reducible refine (unit_Secs.calls a1 t141 _ A5.out).mono ?_); rintro e w19 ⟨rfl, hb⟩; refine ⟨_, rfl, ?_⟩; have n0_ := Aside0.mk (below_step (by repeat (first | (with_reducible first | exact HB.out | apply below_alloc | apply pw_below_drewN | apply below_drew1) | exact HB.out)) hb); clear HB; have HB := n0_; clear n0_; (try clear hb); (try clear hb2); (try clear hk); (try clear hi)) | ((with_reducible refine gate_callee (f := 24) rfl ?_); refine goesL_ (some 21) rfl rfl Try.func24 (by kernel_rfl) rfl #[.int .i64 a0, .int .i64 a1] rfl (by (try simp only [List.map_toArray, List.map_cons, List.map_nil]); first | done | rfl | (simp only [List.length_drop, List.length_take]; rfl)) ?_; (with_reducible refine (unit_Window.calls a0 a1 t142 _ A7.out).mono ?_); rintro e w20 ⟨rfl, hb⟩; refine ⟨_, rfl, ?_⟩; have n0_ := Aside0.mk (below_step (by repeat (first | (with_reducible first | exact HB.out | apply below_alloc | apply pw_below_drewN | apply below_drew1) | exact HB.out)) hb); clear HB; have HB := n0_; clear n0_; (try clear hb); (try clear hb2); (try clear hk); (try clear hi)))
      go_ret
      exact ⟨by first | rfl | (simp [errW_none, errW_some] <;> rfl) | (simp [*, errW_none, errW_some] <;> rfl), by repeat (first | (with_reducible first | exact HB.out | apply below_alloc | apply pw_below_drewN | apply below_drew1) | exact HB.out)⟩
  · rw [if_neg c6] at H
    have c6b0 : (t141 == 0) = false := beq_eq_false_iff_ne.mpr c6
    have c6b1 : (t141 != 0) = true := bne_iff_ne.mpr c6
    replace H := Option.bind_eq_some_iff.mp H
    obtain ⟨t145, A210, H⟩ := H
    replace H : ((unit_End.f a0 a1).bind fun t146 => ((unit_Reset.f a0 a1).bind fun t147 => (if t145 > t140 then (turncocklaw15_UnitWindows.j0 k a0 a1 a2 t140 t146 t147 true) else (if t146 ≤ t140 then (turncocklaw15_UnitWindows.j0 k a0 a1 a2 t140 t146 t147 true) else (if (wrap64 (t146 - t145)) = t141 then (if t147 = (wrap64 (t146 - t140)) then (if t147 < 1 then (turncocklaw15_UnitWindows.j0 k a0 a1 a2 t140 t146 t147 true) else (turncocklaw15_UnitWindows.j0 k a0 a1 a2 t140 t146 t147 (decide (t147 > t141)))) else (turncocklaw15_UnitWindows.j0 k a0 a1 a2 t140 t146 t147 true)) else (turncocklaw15_UnitWindows.j0 k a0 a1 a2 t140 t146 t147 true)))))) = some r := H
    have A21 := Aside0.mk A210
    clear A210
    replace H := Option.bind_eq_some_iff.mp H
    obtain ⟨t146, A220, H⟩ := H
    replace H : ((unit_Reset.f a0 a1).bind fun t147 => (if t145 > t140 then (turncocklaw15_UnitWindows.j0 k a0 a1 a2 t140 t146 t147 true) else (if t146 ≤ t140 then (turncocklaw15_UnitWindows.j0 k a0 a1 a2 t140 t146 t147 true) else (if (wrap64 (t146 - t145)) = t141 then (if t147 = (wrap64 (t146 - t140)) then (if t147 < 1 then (turncocklaw15_UnitWindows.j0 k a0 a1 a2 t140 t146 t147 true) else (turncocklaw15_UnitWindows.j0 k a0 a1 a2 t140 t146 t147 (decide (t147 > t141)))) else (turncocklaw15_UnitWindows.j0 k a0 a1 a2 t140 t146 t147 true)) else (turncocklaw15_UnitWindows.j0 k a0 a1 a2 t140 t146 t147 true))))) = some r := H
    have A22 := Aside0.mk A220
    clear A220
    replace H := Option.bind_eq_some_iff.mp H
    obtain ⟨t147, A230, H⟩ := H
    replace H : (if t145 > t140 then (turncocklaw15_UnitWindows.j0 k a0 a1 a2 t140 t146 t147 true) else (if t146 ≤ t140 then (turncocklaw15_UnitWindows.j0 k a0 a1 a2 t140 t146 t147 true) else (if (wrap64 (t146 - t145)) = t141 then (if t147 = (wrap64 (t146 - t140)) then (if t147 < 1 then (turncocklaw15_UnitWindows.j0 k a0 a1 a2 t140 t146 t147 true) else (turncocklaw15_UnitWindows.j0 k a0 a1 a2 t140 t146 t147 (decide (t147 > t141)))) else (turncocklaw15_UnitWindows.j0 k a0 a1 a2 t140 t146 t147 true)) else (turncocklaw15_UnitWindows.j0 k a0 a1 a2 t140 t146 t147 true)))) = some r := H
    have A23 := Aside0.mk A230
    clear A230
    have HC24 := Aside0.mk H
    clear H
    go_enter Try.func7, Try.ntmps7
    go_upto_region 6 with (first | ((with_reducible refine gate_callee (f := 33) rfl ?_); refine goesL_ (some 14) rfl rfl Try.func33 (by kernel_rfl) rfl #[.int .i64 a0] rfl (by (try simp only [List.map_toArray, List.map_cons, List.map_nil]); first | done | rfl | (simp only [List.length_drop, List.length_take]; rfl)) ?_; (with_reducible refine (turncockref1_Hold.calls a0 t140 _ A4.out).mono ?_); rintro e w' ⟨rfl, ⟨nd, rfl⟩⟩; refine ⟨_, rfl, ?_⟩) | ((with_reducible refine gate_callee (f := 20) rfl ?_); refine goesL_ (some 16) rfl rfl Try.func20 (by kernel_rfl) rfl #[.int .i64 a1] rfl (by (try simp only [List.map_toArray, List.map_cons, List.map_nil]); first | done | rfl | (simp only [List.length_drop, List.length_take]; rfl)) ?_; (with_reducible refine (unit_Secs.calls a1 t141 _ A5.out).mono ?_); rintro e w25 ⟨rfl, hb⟩; refine ⟨_, rfl, ?_⟩; have n0_ := Aside0.mk (below_step (by repeat (first | (with_reducible first | exact HB.out | apply below_alloc | apply pw_below_drewN | apply below_drew1) | exact HB.out)) hb); clear HB; have HB := n0_; clear n0_; (try clear hb); (try clear hb2); (try clear hk); (try clear hi)) | ((with_reducible refine gate_callee (f := 26) rfl ?_); refine goesL_ (some 34) rfl rfl Try.func26 (by kernel_rfl) rfl #[.int .i64 a0, .int .i64 a1] rfl (by (try simp only [List.map_toArray, List.map_cons, List.map_nil]); first | done | rfl | (simp only [List.length_drop, List.length_take]; rfl)) ?_; (with_reducible refine (unit_Start.calls a0 a1 t145 _ A21.out).mono ?_); rintro e w26 ⟨rfl, hb⟩; refine ⟨_, rfl, ?_⟩; have n0_ := Aside0.mk (below_step (by repeat (first | (with_reducible first | exact HB.out | apply below_alloc | apply pw_below_drewN | apply below_drew1) | exact HB.out)) hb); clear HB; have HB := n0_; clear n0_; (try clear hb); (try clear hb2); (try clear hk); (try clear hi)) | ((with_reducible refine gate_callee (f := 28) rfl ?_); refine goesL_ (some 37) rfl rfl Try.func28 (by kernel_rfl) rfl #[.int .i64 a0, .int .i64 a1] rfl (by (try simp only [List.map_toArray, List.map_cons, List.map_nil]); first | done | rfl | (simp only [List.length_drop, List.length_take]; rfl)) ?_; (with_reducible refine (unit_End.calls a0 a1 t146 _ A22.out).mono ?_); rintro e w27 ⟨rfl, hb⟩; refine ⟨_, rfl, ?_⟩; have n0_ := Aside0.mk (below_step (by repeat (first | (with_reducible first | exact HB.out | apply below_alloc | apply pw_below_drewN | apply below_drew1) | exact HB.out)) hb); clear HB; have HB := n0_; clear n0_; (try clear hb); (try clear hb2); (try clear hk); (try clear hi)) | ((with_reducible refine gate_callee (f := 30) rfl ?_); refine goesL_ (some 40) rfl rfl Try.func30 (by kernel_rfl) rfl #[.int .i64 a0, .int .i64 a1] rfl (by (try simp only [List.map_toArray, List.map_cons, List.map_nil]); first | done | rfl | (simp only [List.length_drop, List.length_take]; rfl)) ?_; (with_reducible refine (unit_Reset.calls a0 a1 t147 _ A23.out).mono ?_); rintro e w28 ⟨rfl, hb⟩; refine ⟨_, rfl, ?_⟩; have n0_ := Aside0.mk (below_step (by repeat (first | (with_reducible first | exact HB.out | apply below_alloc | apply pw_below_drewN | apply below_drew1) | exact HB.out)) hb); clear HB; have HB := n0_; clear n0_; (try clear hb); (try clear hb2); (try clear hk); (try clear hi)))
    (try simp only [Act.put, List.setIfInBounds_toArray, List.set_cons_zero, List.set_cons_succ])
    go_cut [71] (fun v71 wc => ∃ (kq : Nat) (x71_23 : Bool), v71 = .bool x71_23 ∧ Aside0 (turncocklaw15_UnitWindows.j0 kq a0 a1 a2 t140 t146 t147 x71_23 = some r) ∧ Aside0 (kq ≤ k) ∧ Aside0 (Below w.heap.size w wc))
    case first =>
      have H := HC24.out
      clear HC24
      by_cases c29 : t145 > t140
      · rw [if_pos c29] at H
        have c29b0 : decide (t140 < t145) = true := decide_eq_true c29
        clear c29
        (first | rw [c29b0] | (simp only [i64_w, i32_w]; rw [c29b0]) | skip)
        have H' := Aside0.mk H
        clear H
        go_wp2
        go_meet
        case rel => exact ⟨_, (true), (by first | rfl | (simp; done) | (simp [*]; done)), H', ⟨by first | omega | exact Nat.le_refl _⟩, ⟨by repeat (first | (with_reducible first | exact HB.out | apply below_alloc | apply pw_below_drewN | apply below_drew1) | exact HB.out)⟩⟩
      · rw [if_neg c29] at H
        have c29b0 : decide (t140 < t145) = false := decide_eq_false c29
        clear c29
        (first | rw [c29b0] | (simp only [i64_w, i32_w]; rw [c29b0]) | skip)
        by_cases c30 : t146 ≤ t140
        · rw [if_pos c30] at H
          have c30b0 : decide (t146 ≤ t140) = true := decide_eq_true c30
          clear c30
          have H' := Aside0.mk H
          clear H
          go_wp2
          go_meet
          case rel => exact ⟨_, (true), (by first | rfl | (simp; done) | (simp [*]; done)), H', ⟨by first | omega | exact Nat.le_refl _⟩, ⟨by repeat (first | (with_reducible first | exact HB.out | apply below_alloc | apply pw_below_drewN | apply below_drew1) | exact HB.out)⟩⟩
        · rw [if_neg c30] at H
          have c30b0 : decide (t146 ≤ t140) = false := decide_eq_false c30
          clear c30
          by_cases c31 : (wrap64 (t146 - t145)) = t141
          · rw [if_pos c31] at H
            have c31b0 : ((wrap64 (t146 - t145)) == t141) = true := beq_iff_eq.mpr c31
            have c31b1 : ((wrap64 (t146 - t145)) != t141) = false := bne_eq_false_iff_eq.mpr c31
            clear c31
            by_cases c32 : t147 = (wrap64 (t146 - t140))
            · rw [if_pos c32] at H
              have c32b0 : (t147 == (wrap64 (t146 - t140))) = true := beq_iff_eq.mpr c32
              have c32b1 : (t147 != (wrap64 (t146 - t140))) = false := bne_eq_false_iff_eq.mpr c32
              clear c32
              by_cases c33 : t147 < 1
              · rw [if_pos c33] at H
                have c33b0 : decide (t147 < 1) = true := decide_eq_true c33
                clear c33
                have H' := Aside0.mk H
                clear H
                go_wp2
                go_meet
                case rel => exact ⟨_, (true), (by first | rfl | (simp; done) | (simp [*]; done)), H', ⟨by first | omega | exact Nat.le_refl _⟩, ⟨by repeat (first | (with_reducible first | exact HB.out | apply below_alloc | apply pw_below_drewN | apply below_drew1) | exact HB.out)⟩⟩
              · rw [if_neg c33] at H
                have c33b0 : decide (t147 < 1) = false := decide_eq_false c33
                clear c33
                have H' := Aside0.mk H
                clear H
                go_wp2
                go_meet
                case rel => exact ⟨_, (decide (t147 > t141)), (by first | rfl | (simp; done) | (simp [*]; done)), H', ⟨by first | omega | exact Nat.le_refl _⟩, ⟨by repeat (first | (with_reducible first | exact HB.out | apply below_alloc | apply pw_below_drewN | apply below_drew1) | exact HB.out)⟩⟩
            · rw [if_neg c32] at H
              have c32b0 : (t147 == (wrap64 (t146 - t140))) = false := beq_eq_false_iff_ne.mpr c32
              have c32b1 : (t147 != (wrap64 (t146 - t140))) = true := bne_iff_ne.mpr c32
              have H' := Aside0.mk H
              clear H
              go_wp2
              go_meet
              case rel => exact ⟨_, (true), (by first | rfl | (simp; done) | (simp [*]; done)), H', ⟨by first | omega | exact Nat.le_refl _⟩, ⟨by repeat (first | (with_reducible first | exact HB.out | apply below_alloc | apply pw_below_drewN | apply below_drew1) | exact HB.out)⟩⟩
          · rw [if_neg c31] at H
            have c31b0 : ((wrap64 (t146 - t145)) == t141) = false := beq_eq_false_iff_ne.mpr c31
            have c31b1 : ((wrap64 (t146 - t145)) != t141) = true := bne_iff_ne.mpr c31
            have H' := Aside0.mk H
            clear H
            go_wp2
            go_meet
            case rel => exact ⟨_, (true), (by first | rfl | (simp; done) | (simp [*]; done)), H', ⟨by first | omega | exact Nat.le_refl _⟩, ⟨by repeat (first | (with_reducible first | exact HB.out | apply below_alloc | apply pw_below_drewN | apply below_drew1) | exact HB.out)⟩⟩
    case rest =>
      clear HC24
      try clear c1
      try clear c2
      try clear p2
      try clear c3
      try clear c6
      try clear c6b0
      try clear c6b1
      try clear p6
      try clear c7
      try clear c8
      try clear c8b0
      try clear c8b1
      try clear c10
      try clear c10b0
      try clear c10b1
      try clear c20
      try clear c24
      try clear c26
      try clear c28
      try clear c29
      try clear c29b0
      try clear c30
      try clear c30b0
      try clear c31
      try clear c31b0
      try clear c31b1
      try clear c32
      try clear c32b0
      try clear c32b1
      try clear c33
      try clear c33b0
      obtain ⟨kq, x71_23, rfl, HA, HJ23, HB⟩ := hcut
      cases kq with
      | zero => exact absurd HA.out (by simp [turncocklaw15_UnitWindows.j0])
      | succ kj23 =>
        have H := HA.out
        clear HA
        simp only [turncocklaw15_UnitWindows.j0] at H
        by_cases c34 : x71_23 = true
        · subst c34
          have H1 : (some false) = some r := by rw [if_pos rfl] at H; exact H
          clear H
          have H := H1
          clear H1
          obtain rfl := Option.some.inj H
          go_wp2
          go_ret
          exact ⟨by first | rfl | (simp [errW_none, errW_some] <;> rfl) | (simp [*, errW_none, errW_some] <;> rfl), by repeat (first | (with_reducible first | exact HB.out | apply below_alloc | apply pw_below_drewN | apply below_drew1) | exact HB.out)⟩
        · replace c34 := Bool.eq_false_iff.mpr c34
          subst c34
          have H1 : (if (wrap64 (t140 + (mx (mn a2 (wrap64 (t147 - 1))) 0))) > 4611686018427387904 then (turncocklaw15_UnitWindows.j1 kj23 a0 a1 t140 t146 (mx (mn a2 (wrap64 (t147 - 1))) 0) true) else (turncocklaw15_UnitWindows.j1 kj23 a0 a1 t140 t146 (mx (mn a2 (wrap64 (t147 - 1))) 0) (decide (t146 > 4611686018427387904)))) = some r := by rw [if_neg (show ¬ (false = true) by decide)] at H; exact H
          clear H
          have H := H1
          clear H1
          obtain ⟨ji35, hji35⟩ : ∃ j_ : Int, (mn a2 (wrap64 (t147 - 1))) = j_ := ⟨_, rfl⟩
          replace H : (if (wrap64 (t140 + (mx (ji35) 0))) > 4611686018427387904 then (turncocklaw15_UnitWindows.j1 kj23 a0 a1 t140 t146 (mx (ji35) 0) true) else (turncocklaw15_UnitWindows.j1 kj23 a0 a1 t140 t146 (mx (ji35) 0) (decide (t146 > 4611686018427387904)))) = some r := by first | (rw [hji35] at H; exact H) | (simp only [hji35] at H ⊢; exact H)
          have hji35_ : (if (wrap64 (t147 - 1)) < a2 then (wrap64 (t147 - 1)) else a2) = ji35 := hji35
          obtain ⟨ji36, hji36⟩ : ∃ j_ : Int, (mx (ji35) 0) = j_ := ⟨_, rfl⟩
          replace H : (if (wrap64 (t140 + (ji36))) > 4611686018427387904 then (turncocklaw15_UnitWindows.j1 kj23 a0 a1 t140 t146 ji36 true) else (turncocklaw15_UnitWindows.j1 kj23 a0 a1 t140 t146 ji36 (decide (t146 > 4611686018427387904)))) = some r := by first | (rw [hji36] at H; exact H) | (simp only [hji36] at H ⊢; exact H)
          have hji36_ : (if (ji35) < 0 then 0 else (ji35)) = ji36 := hji36
          have HC37 := Aside0.mk H
          clear H
          go_upto_region 9 with (fail)
          go_cut [84] (fun v84 wc => ∃ (kq : Nat) (x84_36 : Bool), v84 = .bool x84_36 ∧ Aside0 (turncocklaw15_UnitWindows.j1 kq a0 a1 t140 t146 ji36 x84_36 = some r) ∧ Aside0 (kq ≤ kj23) ∧ Aside0 (Below w.heap.size w wc))
          case first =>
            have H := HC37.out
            clear HC37
            by_cases c38 : (wrap64 (t140 + (ji36))) > 4611686018427387904
            · rw [if_pos c38] at H
              have c38b0 : decide (4611686018427387904 < (wrap64 (t140 + (ji36)))) = true := decide_eq_true c38
              clear c38
              (first | rw [c38b0] | (simp only [i64_w, i32_w]; rw [c38b0]) | skip)
              have H' := Aside0.mk H
              clear H
              go_wp2
              go_meet
              case rel => exact ⟨_, (true), (by first | rfl | (simp; done) | (simp [*]; done)), H', ⟨by have := HJ23.out; first | omega | exact Nat.le_refl _⟩, ⟨by repeat (first | (with_reducible first | exact HB.out | apply below_alloc | apply pw_below_drewN | apply below_drew1) | exact HB.out)⟩⟩
            · rw [if_neg c38] at H
              have c38b0 : decide (4611686018427387904 < (wrap64 (t140 + (ji36)))) = false := decide_eq_false c38
              clear c38
              (first | rw [c38b0] | (simp only [i64_w, i32_w]; rw [c38b0]) | skip)
              have H' := Aside0.mk H
              clear H
              go_wp2
              go_meet
              case rel => exact ⟨_, (decide (t146 > 4611686018427387904)), (by first | rfl | (simp; done) | (simp [*]; done)), H', ⟨by have := HJ23.out; first | omega | exact Nat.le_refl _⟩, ⟨by repeat (first | (with_reducible first | exact HB.out | apply below_alloc | apply pw_below_drewN | apply below_drew1) | exact HB.out)⟩⟩
          case rest =>
            clear HC37
            try clear c1
            try clear c2
            try clear p2
            try clear c3
            try clear c6
            try clear c6b0
            try clear c6b1
            try clear p6
            try clear c7
            try clear c8
            try clear c8b0
            try clear c8b1
            try clear c10
            try clear c10b0
            try clear c10b1
            try clear c20
            try clear c24
            try clear c26
            try clear c28
            try clear c29
            try clear c29b0
            try clear c30
            try clear c30b0
            try clear c31
            try clear c31b0
            try clear c31b1
            try clear c32
            try clear c32b0
            try clear c32b1
            try clear c33
            try clear c33b0
            try clear c34
            try clear c38
            try clear c38b0
            try clear p2
            try clear p6
            obtain ⟨kq, x84_36, rfl, HA, HJ36, HB⟩ := hcut
            cases kq with
            | zero => exact absurd HA.out (by simp [turncocklaw15_UnitWindows.j1])
            | succ kj36 =>
              have H := HA.out
              clear HA
              simp only [turncocklaw15_UnitWindows.j1] at H
              by_cases c39 : x84_36 = true
              · subst c39
                have H1 : ((turncocklaw15_awake.f kj36).bind fun t148 => (some t148)) = some r := by rw [if_pos rfl] at H; exact H
                clear H
                have H := H1
                clear H1
                replace H := Option.bind_eq_some_iff.mp H
                obtain ⟨t148, A400, H⟩ := H
                replace H : (some t148) = some r := H
                have A40 := Aside0.mk A400
                clear A400
                obtain rfl := Option.some.inj H
                go_wp2_with (first | ((with_reducible refine gate_callee (f := 32) rfl ?_); refine goesL_ (some 85) rfl rfl Try.func32 (by kernel_rfl) rfl #[] rfl (by (try simp only [List.map_toArray, List.map_cons, List.map_nil]); first | done | rfl | (simp only [List.length_drop, List.length_take]; rfl)) ?_; (with_reducible refine (turncocklaw15_awake.calls kj36  t148 _ A40.out).mono ?_); rintro e w41 ⟨rfl, hb⟩; refine ⟨_, rfl, ?_⟩; have n0_ := Aside0.mk (below_step (by repeat (first | (with_reducible first | exact HB.out | apply below_alloc | apply pw_below_drewN | apply below_drew1) | exact HB.out)) hb); clear HB; have HB := n0_; clear n0_; (try clear hb); (try clear hb2); (try clear hk); (try clear hi)))
                go_ret
                exact ⟨by first | rfl | (simp [errW_none, errW_some] <;> rfl) | (simp only [← hji35, ← hji36]; first | rfl | (simp [errW_none, errW_some] <;> rfl)) | (simp [*, errW_none, errW_some] <;> rfl), by repeat (first | (with_reducible first | exact HB.out | apply below_alloc | apply pw_below_drewN | apply below_drew1) | exact HB.out)⟩
              · replace c39 := Bool.eq_false_iff.mpr c39
                subst c39
                have H1 : ((unit_Window.f (wrap64 (t140 + ji36)) a1).bind fun t149 => ((unit_Window.f a0 a1).bind fun t150 => (if t149 = t150 then ((unit_Window.f t146 a1).bind fun t151 => ((unit_Window.f a0 a1).bind fun t152 => (if t151 = (wrap64 (t152 + 1)) then ((unit_Start.f t146 a1).bind fun t153 => (if t153 = t146 then ((turncocklaw15_awake.f kj36).bind fun t154 => (some t154)) else (some false))) else (some false)))) else (some false)))) = some r := by rw [if_neg (show ¬ (false = true) by decide)] at H; exact H
                clear H
                have H := H1
                clear H1
                replace H := Option.bind_eq_some_iff.mp H
                obtain ⟨t149, A420, H⟩ := H
                replace H : ((unit_Window.f a0 a1).bind fun t150 => (if t149 = t150 then ((unit_Window.f t146 a1).bind fun t151 => ((unit_Window.f a0 a1).bind fun t152 => (if t151 = (wrap64 (t152 + 1)) then ((unit_Start.f t146 a1).bind fun t153 => (if t153 = t146 then ((turncocklaw15_awake.f kj36).bind fun t154 => (some t154)) else (some false))) else (some false)))) else (some false))) = some r := H
                have A42 := Aside0.mk A420
                clear A420
                replace H := Option.bind_eq_some_iff.mp H
                obtain ⟨t150, A430, H⟩ := H
                replace H : (if t149 = t150 then ((unit_Window.f t146 a1).bind fun t151 => ((unit_Window.f a0 a1).bind fun t152 => (if t151 = (wrap64 (t152 + 1)) then ((unit_Start.f t146 a1).bind fun t153 => (if t153 = t146 then ((turncocklaw15_awake.f kj36).bind fun t154 => (some t154)) else (some false))) else (some false)))) else (some false)) = some r := H
                have A43 := Aside0.mk A430
                clear A430
                by_cases c44 : t149 = t150
                · rw [if_pos c44] at H
                  have c44b0 : (t149 == t150) = true := beq_iff_eq.mpr c44
                  have c44b1 : (t149 != t150) = false := bne_eq_false_iff_eq.mpr c44
                  clear c44
                  replace H := Option.bind_eq_some_iff.mp H
                  obtain ⟨t151, A450, H⟩ := H
                  replace H : ((unit_Window.f a0 a1).bind fun t152 => (if t151 = (wrap64 (t152 + 1)) then ((unit_Start.f t146 a1).bind fun t153 => (if t153 = t146 then ((turncocklaw15_awake.f kj36).bind fun t154 => (some t154)) else (some false))) else (some false))) = some r := H
                  have A45 := Aside0.mk A450
                  clear A450
                  replace H := Option.bind_eq_some_iff.mp H
                  obtain ⟨t152, A460, H⟩ := H
                  replace H : (if t151 = (wrap64 (t152 + 1)) then ((unit_Start.f t146 a1).bind fun t153 => (if t153 = t146 then ((turncocklaw15_awake.f kj36).bind fun t154 => (some t154)) else (some false))) else (some false)) = some r := H
                  have A46 := Aside0.mk A460
                  clear A460
                  by_cases c47 : t151 = (wrap64 (t152 + 1))
                  · rw [if_pos c47] at H
                    have c47b0 : (t151 == (wrap64 (t152 + 1))) = true := beq_iff_eq.mpr c47
                    have c47b1 : (t151 != (wrap64 (t152 + 1))) = false := bne_eq_false_iff_eq.mpr c47
                    clear c47
                    replace H := Option.bind_eq_some_iff.mp H
                    obtain ⟨t153, A480, H⟩ := H
                    replace H : (if t153 = t146 then ((turncocklaw15_awake.f kj36).bind fun t154 => (some t154)) else (some false)) = some r := H
                    have A48 := Aside0.mk A480
                    clear A480
                    by_cases c49 : t153 = t146
                    · rw [if_pos c49] at H
                      have c49b0 : (t153 == t146) = true := beq_iff_eq.mpr c49
                      have c49b1 : (t153 != t146) = false := bne_eq_false_iff_eq.mpr c49
                      clear c49
                      replace H := Option.bind_eq_some_iff.mp H
                      obtain ⟨t154, A500, H⟩ := H
                      replace H : (some t154) = some r := H
                      have A50 := Aside0.mk A500
                      clear A500
                      obtain rfl := Option.some.inj H
                      go_wp2_with (first | ((with_reducible refine gate_callee (f := 24) rfl ?_); refine goesL_ (some 90) rfl rfl Try.func24 (by kernel_rfl) rfl #[.int .i64 (wrap64 (t140 + ji36)), .int .i64 a1] rfl (by (try simp only [List.map_toArray, List.map_cons, List.map_nil]); first | done | (simp only [hji36]; rfl) | rfl | (simp only [List.length_drop, List.length_take]; rfl)) ?_; (with_reducible refine (unit_Window.calls (wrap64 (t140 + ji36)) a1 t149 _ A42.out).mono ?_); rintro e w51 ⟨rfl, hb⟩; refine ⟨_, rfl, ?_⟩; have n0_ := Aside0.mk (below_step (by repeat (first | (with_reducible first | exact HB.out | apply below_alloc | apply pw_below_drewN | apply below_drew1) | exact HB.out)) hb); clear HB; have HB := n0_; clear n0_; (try clear hb); (try clear hb2); (try clear hk); (try clear hi)) | ((with_reducible refine gate_callee (f := 24) rfl ?_); refine goesL_ (some 93) rfl rfl Try.func24 (by kernel_rfl) rfl #[.int .i64 a0, .int .i64 a1] rfl (by (try simp only [List.map_toArray, List.map_cons, List.map_nil]); first | done | rfl | (simp only [List.length_drop, List.length_take]; rfl)) ?_; (with_reducible refine (unit_Window.calls a0 a1 t150 _ A43.out).mono ?_); rintro e w52 ⟨rfl, hb⟩; refine ⟨_, rfl, ?_⟩; have n0_ := Aside0.mk (below_step (by repeat (first | (with_reducible first | exact HB.out | apply below_alloc | apply pw_below_drewN | apply below_drew1) | exact HB.out)) hb); clear HB; have HB := n0_; clear n0_; (try clear hb); (try clear hb2); (try clear hk); (try clear hi)) | (go_at_call 24; (with_reducible refine (unit_Window.calls t146 a1 t151 _ A45.out).mono ?_); rintro e w53 ⟨rfl, hb⟩; have n0_ := Aside0.mk (below_step (by repeat (first | (with_reducible first | exact HB.out | apply below_alloc | apply pw_below_drewN | apply below_drew1) | exact HB.out)) hb); clear HB; have HB := n0_; clear n0_; (try clear hb); (try clear hb2); (try clear hk); (try clear hi)) | (go_at_call 24; (with_reducible refine (unit_Window.calls a0 a1 t152 _ A46.out).mono ?_); rintro e w54 ⟨rfl, hb⟩; have n0_ := Aside0.mk (below_step (by repeat (first | (with_reducible first | exact HB.out | apply below_alloc | apply pw_below_drewN | apply below_drew1) | exact HB.out)) hb); clear HB; have HB := n0_; clear n0_; (try clear hb); (try clear hb2); (try clear hk); (try clear hi)) | (go_at_call 26; (with_reducible refine (unit_Start.calls t146 a1 t153 _ A48.out).mono ?_); rintro e w55 ⟨rfl, hb⟩; have n0_ := Aside0.mk (below_step (by repeat (first | (with_reducible first | exact HB.out | apply below_alloc | apply pw_below_drewN | apply below_drew1) | exact HB.out)) hb); clear HB; have HB := n0_; clear n0_; (try clear hb); (try clear hb2); (try clear hk); (try clear hi)) | (go_at_call 32; (with_reducible refine (turncocklaw15_awake.calls kj36  t154 _ A50.out).mono ?_); rintro e w56 ⟨rfl, hb⟩; have n0_ := Aside0.mk (below_step (by repeat (first | (with_reducible first | exact HB.out | apply below_alloc | apply pw_below_drewN | apply below_drew1) | exact HB.out)) hb); clear HB; have HB := n0_; clear n0_; (try clear hb); (try clear hb2); (try clear hk); (try clear hi)))
                      go_ret
                      exact ⟨by first | rfl | (simp [errW_none, errW_some] <;> rfl) | (simp only [← hji35, ← hji36]; first | rfl | (simp [errW_none, errW_some] <;> rfl)) | (simp [*, errW_none, errW_some] <;> rfl), by repeat (first | (with_reducible first | exact HB.out | apply below_alloc | apply pw_below_drewN | apply below_drew1) | exact HB.out)⟩
                    · rw [if_neg c49] at H
                      have c49b0 : (t153 == t146) = false := beq_eq_false_iff_ne.mpr c49
                      have c49b1 : (t153 != t146) = true := bne_iff_ne.mpr c49
                      obtain rfl := Option.some.inj H
                      go_wp2_with (first | ((with_reducible refine gate_callee (f := 24) rfl ?_); refine goesL_ (some 90) rfl rfl Try.func24 (by kernel_rfl) rfl #[.int .i64 (wrap64 (t140 + ji36)), .int .i64 a1] rfl (by (try simp only [List.map_toArray, List.map_cons, List.map_nil]); first | done | (simp only [hji36]; rfl) | rfl | (simp only [List.length_drop, List.length_take]; rfl)) ?_; (with_reducible refine (unit_Window.calls (wrap64 (t140 + ji36)) a1 t149 _ A42.out).mono ?_); rintro e w57 ⟨rfl, hb⟩; refine ⟨_, rfl, ?_⟩; have n0_ := Aside0.mk (below_step (by repeat (first | (with_reducible first | exact HB.out | apply below_alloc | apply pw_below_drewN | apply below_drew1) | exact HB.out)) hb); clear HB; have HB := n0_; clear n0_; (try clear hb); (try clear hb2); (try clear hk); (try clear hi)) | ((with_reducible refine gate_callee (f := 24) rfl ?_); refine goesL_ (some 93) rfl rfl Try.func24 (by kernel_rfl) rfl #[.int .i64 a0, .int .i64 a1] rfl (by (try simp only [List.map_toArray, List.map_cons, List.map_nil]); first | done | rfl | (simp only [List.length_drop, List.length_take]; rfl)) ?_; (with_reducible refine (unit_Window.calls a0 a1 t150 _ A43.out).mono ?_); rintro e w58 ⟨rfl, hb⟩; refine ⟨_, rfl, ?_⟩; have n0_ := Aside0.mk (below_step (by repeat (first | (with_reducible first | exact HB.out | apply below_alloc | apply pw_below_drewN | apply below_drew1) | exact HB.out)) hb); clear HB; have HB := n0_; clear n0_; (try clear hb); (try clear hb2); (try clear hk); (try clear hi)) | (go_at_call 24; (with_reducible refine (unit_Window.calls t146 a1 t151 _ A45.out).mono ?_); rintro e w59 ⟨rfl, hb⟩; have n0_ := Aside0.mk (below_step (by repeat (first | (with_reducible first | exact HB.out | apply below_alloc | apply pw_below_drewN | apply below_drew1) | exact HB.out)) hb); clear HB; have HB := n0_; clear n0_; (try clear hb); (try clear hb2); (try clear hk); (try clear hi)) | (go_at_call 24; (with_reducible refine (unit_Window.calls a0 a1 t152 _ A46.out).mono ?_); rintro e w60 ⟨rfl, hb⟩; have n0_ := Aside0.mk (below_step (by repeat (first | (with_reducible first | exact HB.out | apply below_alloc | apply pw_below_drewN | apply below_drew1) | exact HB.out)) hb); clear HB; have HB := n0_; clear n0_; (try clear hb); (try clear hb2); (try clear hk); (try clear hi)) | (go_at_call 26; (with_reducible refine (unit_Start.calls t146 a1 t153 _ A48.out).mono ?_); rintro e w61 ⟨rfl, hb⟩; have n0_ := Aside0.mk (below_step (by repeat (first | (with_reducible first | exact HB.out | apply below_alloc | apply pw_below_drewN | apply below_drew1) | exact HB.out)) hb); clear HB; have HB := n0_; clear n0_; (try clear hb); (try clear hb2); (try clear hk); (try clear hi)))
                      go_ret
                      exact ⟨by first | rfl | (simp [errW_none, errW_some] <;> rfl) | (simp only [← hji35, ← hji36]; first | rfl | (simp [errW_none, errW_some] <;> rfl)) | (simp [*, errW_none, errW_some] <;> rfl), by repeat (first | (with_reducible first | exact HB.out | apply below_alloc | apply pw_below_drewN | apply below_drew1) | exact HB.out)⟩
                  · rw [if_neg c47] at H
                    have c47b0 : (t151 == (wrap64 (t152 + 1))) = false := beq_eq_false_iff_ne.mpr c47
                    have c47b1 : (t151 != (wrap64 (t152 + 1))) = true := bne_iff_ne.mpr c47
                    obtain rfl := Option.some.inj H
                    go_wp2_with (first | ((with_reducible refine gate_callee (f := 24) rfl ?_); refine goesL_ (some 90) rfl rfl Try.func24 (by kernel_rfl) rfl #[.int .i64 (wrap64 (t140 + ji36)), .int .i64 a1] rfl (by (try simp only [List.map_toArray, List.map_cons, List.map_nil]); first | done | (simp only [hji36]; rfl) | rfl | (simp only [List.length_drop, List.length_take]; rfl)) ?_; (with_reducible refine (unit_Window.calls (wrap64 (t140 + ji36)) a1 t149 _ A42.out).mono ?_); rintro e w62 ⟨rfl, hb⟩; refine ⟨_, rfl, ?_⟩; have n0_ := Aside0.mk (below_step (by repeat (first | (with_reducible first | exact HB.out | apply below_alloc | apply pw_below_drewN | apply below_drew1) | exact HB.out)) hb); clear HB; have HB := n0_; clear n0_; (try clear hb); (try clear hb2); (try clear hk); (try clear hi)) | ((with_reducible refine gate_callee (f := 24) rfl ?_); refine goesL_ (some 93) rfl rfl Try.func24 (by kernel_rfl) rfl #[.int .i64 a0, .int .i64 a1] rfl (by (try simp only [List.map_toArray, List.map_cons, List.map_nil]); first | done | rfl | (simp only [List.length_drop, List.length_take]; rfl)) ?_; (with_reducible refine (unit_Window.calls a0 a1 t150 _ A43.out).mono ?_); rintro e w63 ⟨rfl, hb⟩; refine ⟨_, rfl, ?_⟩; have n0_ := Aside0.mk (below_step (by repeat (first | (with_reducible first | exact HB.out | apply below_alloc | apply pw_below_drewN | apply below_drew1) | exact HB.out)) hb); clear HB; have HB := n0_; clear n0_; (try clear hb); (try clear hb2); (try clear hk); (try clear hi)) | (go_at_call 24; (with_reducible refine (unit_Window.calls t146 a1 t151 _ A45.out).mono ?_); rintro e w64 ⟨rfl, hb⟩; have n0_ := Aside0.mk (below_step (by repeat (first | (with_reducible first | exact HB.out | apply below_alloc | apply pw_below_drewN | apply below_drew1) | exact HB.out)) hb); clear HB; have HB := n0_; clear n0_; (try clear hb); (try clear hb2); (try clear hk); (try clear hi)) | (go_at_call 24; (with_reducible refine (unit_Window.calls a0 a1 t152 _ A46.out).mono ?_); rintro e w65 ⟨rfl, hb⟩; have n0_ := Aside0.mk (below_step (by repeat (first | (with_reducible first | exact HB.out | apply below_alloc | apply pw_below_drewN | apply below_drew1) | exact HB.out)) hb); clear HB; have HB := n0_; clear n0_; (try clear hb); (try clear hb2); (try clear hk); (try clear hi)))
                    go_ret
                    exact ⟨by first | rfl | (simp [errW_none, errW_some] <;> rfl) | (simp only [← hji35, ← hji36]; first | rfl | (simp [errW_none, errW_some] <;> rfl)) | (simp [*, errW_none, errW_some] <;> rfl), by repeat (first | (with_reducible first | exact HB.out | apply below_alloc | apply pw_below_drewN | apply below_drew1) | exact HB.out)⟩
                · rw [if_neg c44] at H
                  have c44b0 : (t149 == t150) = false := beq_eq_false_iff_ne.mpr c44
                  have c44b1 : (t149 != t150) = true := bne_iff_ne.mpr c44
                  obtain rfl := Option.some.inj H
                  go_wp2_with (first | ((with_reducible refine gate_callee (f := 24) rfl ?_); refine goesL_ (some 90) rfl rfl Try.func24 (by kernel_rfl) rfl #[.int .i64 (wrap64 (t140 + ji36)), .int .i64 a1] rfl (by (try simp only [List.map_toArray, List.map_cons, List.map_nil]); first | done | (simp only [hji36]; rfl) | rfl | (simp only [List.length_drop, List.length_take]; rfl)) ?_; (with_reducible refine (unit_Window.calls (wrap64 (t140 + ji36)) a1 t149 _ A42.out).mono ?_); rintro e w66 ⟨rfl, hb⟩; refine ⟨_, rfl, ?_⟩; have n0_ := Aside0.mk (below_step (by repeat (first | (with_reducible first | exact HB.out | apply below_alloc | apply pw_below_drewN | apply below_drew1) | exact HB.out)) hb); clear HB; have HB := n0_; clear n0_; (try clear hb); (try clear hb2); (try clear hk); (try clear hi)) | ((with_reducible refine gate_callee (f := 24) rfl ?_); refine goesL_ (some 93) rfl rfl Try.func24 (by kernel_rfl) rfl #[.int .i64 a0, .int .i64 a1] rfl (by (try simp only [List.map_toArray, List.map_cons, List.map_nil]); first | done | rfl | (simp only [List.length_drop, List.length_take]; rfl)) ?_; (with_reducible refine (unit_Window.calls a0 a1 t150 _ A43.out).mono ?_); rintro e w67 ⟨rfl, hb⟩; refine ⟨_, rfl, ?_⟩; have n0_ := Aside0.mk (below_step (by repeat (first | (with_reducible first | exact HB.out | apply below_alloc | apply pw_below_drewN | apply below_drew1) | exact HB.out)) hb); clear HB; have HB := n0_; clear n0_; (try clear hb); (try clear hb2); (try clear hk); (try clear hi)))
                  go_ret
                  exact ⟨by first | rfl | (simp [errW_none, errW_some] <;> rfl) | (simp only [← hji35, ← hji36]; first | rfl | (simp [errW_none, errW_some] <;> rfl)) | (simp [*, errW_none, errW_some] <;> rfl), by repeat (first | (with_reducible first | exact HB.out | apply below_alloc | apply pw_below_drewN | apply below_drew1) | exact HB.out)⟩

/-- THE ONE PURE STATEMENT of turncocklaw15_UnitWindows: yours. -/
def turncocklaw15_UnitWindows.Pure : Prop := ∀ (a0 : Int) (a1 : Int) (a2 : Int), (Lit.int .i64 a0).wf = true → (Lit.int .i64 a1).wf = true → (Lit.int .i64 a2).wf = true → ∃ k, turncocklaw15_UnitWindows.f k a0 a1 a2 = some true
theorem turncocklaw15_UnitWindows.walk (P : turncocklaw15_UnitWindows.Pure) (a0 : Int) (a1 : Int) (a2 : Int) (w : World) (w0 : (Lit.int .i64 a0).wf = true) (w1 : (Lit.int .i64 a1).wf = true) (w2 : (Lit.int .i64 a2).wf = true) :
    Calls Try.prog 7 #[.int .i64 a0, .int .i64 a1, .int .i64 a2] w fun e w' => e = .returned (.bool true) ∧ Below w.heap.size w w' := by
  obtain ⟨k, h⟩ := P a0 a1 a2 w0 w1 w2
  refine (turncocklaw15_UnitWindows.calls k a0 a1 a2 true w h).mono ?_
  rintro e w' ⟨rfl, hd⟩
  exact ⟨rfl, hd⟩

end Go.Proofs.Ytjiaombbjmhmoaa.PUnitWindows
