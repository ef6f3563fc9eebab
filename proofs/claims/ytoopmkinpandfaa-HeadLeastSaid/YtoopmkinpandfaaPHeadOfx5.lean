-- WRITTEN BY THIS SESSION'S mprint.py upon the print: some functions are proved by hand
import Derived.Test.YtoopmkinpandfaaPHeadOfx0
import Derived.Test.YtoopmkinpandfaaPHeadOfx2
import Derived.Test.YtoopmkinpandfaaPHeadOfx4
namespace Go.Proofs.Ytoopmkinpandfaa.PHeadOf
open Go.RowKit Go.Proofs.YtoopmkinpandfaaW.PrintWords Go.Proofs.YtoopmkinpandfaaW.PrintLast Go.Proofs.YtoopmkinpandfaaW.PrintMore
attribute [local go_sem] max2_int min2_int max_two min_two max_three min_three max_four min_four   -- for this text's walks alone
set_option linter.unusedVariables false
set_option linter.unusedSimpArgs false

/-! ### turncockref1_Shown: function 19 -/
def turncockref1_Shown.j0 : Nat → Nat → ByteArray → Option (ByteArray)
  | 0, _, _ => none
  | k + 1, x0, x3 => (math_IsInf.f x0 0).bind fun t172 => (if t172 = true then (if x3.size + 3 ≤ 9223372036854775807 then (some (x3 ++ (⟨#[105, 110, 102]⟩ : ByteArray))) else (none)) else ((math_Abs.f x0).bind fun t173 => (if (fge t173 4845873199050653696) = true then (if x3.size + 3 ≤ 9223372036854775807 then (some (x3 ++ (⟨#[98, 105, 103]⟩ : ByteArray))) else (none)) else ((math_Floor.f t173).bind fun t174 => (if (fsubOk t173 t174) = true then (if (fmulOk (fsub t173 t174) 4652007308841189376) = true then ((math_Floor.f (fmul (fsub t173 t174) 4652007308841189376)).bind fun t175 => (if (f2iOk t175) = true then (if (f2iOk t174) = true then ((turncockref1_Digits.f k (f2i t174)).bind fun t176 => (if x3.size + t176.size ≤ 9223372036854775807 then (if x3.size + t176.size + 1 ≤ 9223372036854775807 then ((turncockref1_filled.f k (mn (f2i t175) 999) 3).bind fun t177 => (if x3.size + t176.size + 1 + t177.size ≤ 9223372036854775807 then (some (((x3 ++ t176) ++ (⟨#[46]⟩ : ByteArray)) ++ t177)) else (none))) else (none)) else (none))) else (none)) else (none))) else (none)) else (none))))))
def turncockref1_Shown.f (k : Nat) (a0 : Nat) : Option (ByteArray) := (math_IsNaN.f a0).bind fun t170 => (if t170 = true then (some (⟨#[110, 97, 110]⟩ : ByteArray)) else ((math_Signbit.f a0).bind fun t171 => (if t171 = true then (turncockref1_Shown.j0 k a0 (⟨#[45]⟩ : ByteArray)) else (turncockref1_Shown.j0 k a0 (⟨#[]⟩ : ByteArray)))))
theorem turncockref1_Shown.mono_l : ∀ k, (∀ y0 y1, LeO (turncockref1_Shown.j0 k y0 y1) (turncockref1_Shown.j0 (k + 1) y0 y1))
  | 0 => fun _ _ r h => by simp [turncockref1_Shown.j0] at h
  | k + 1 => by
    have ih0 := turncockref1_Shown.mono_l k
    · intro y0 y1
      unfold turncockref1_Shown.j0
      repeat' first
      | (with_reducible exact ih0 _ _)
      | (with_reducible exact turncockref1_Digits.mono _ _)
      | (with_reducible exact turncockref1_filled.mono _ _ _)
      | (with_reducible exact LeO.refl _)
      | (with_reducible exact LeO.none _)
      | (with_reducible refine LeO.ite ?_ ?_)
      | (with_reducible refine LeO.bind ?_ (fun _ => ?_))
      | exact ih0 _ _
      | exact turncockref1_Digits.mono _ _
      | exact turncockref1_filled.mono _ _ _
      | exact LeO.none _
      | refine LeO.ite ?_ ?_
      | refine LeO.bind ?_ (fun _ => ?_)
theorem turncockref1_Shown.mono : ∀ a0 k, LeO (turncockref1_Shown.f k a0) (turncockref1_Shown.f (k + 1) a0) := by
  intro a0 k
  have ih0 := turncockref1_Shown.mono_l k
  unfold turncockref1_Shown.f
  repeat' first
      | (with_reducible exact ih0 _ _)
      | (with_reducible exact turncockref1_Digits.mono _ _)
      | (with_reducible exact turncockref1_filled.mono _ _ _)
      | (with_reducible exact LeO.refl _)
      | (with_reducible exact LeO.none _)
      | (with_reducible refine LeO.ite ?_ ?_)
      | (with_reducible refine LeO.bind ?_ (fun _ => ?_))
      | exact ih0 _ _
      | exact turncockref1_Digits.mono _ _
      | exact turncockref1_filled.mono _ _ _
      | exact LeO.none _
      | refine LeO.ite ?_ ?_
      | refine LeO.bind ?_ (fun _ => ?_)
set_option maxHeartbeats 8000000 in
set_option maxRecDepth 100000 in
theorem turncockref1_Shown.calls (k : Nat) (a0 : Nat) (r : ByteArray) (w : World) (h : turncockref1_Shown.f k a0 = some r) :
    Calls Try.prog 19 #[.float .f64 a0] w fun e w' => e = .returned (.string r) ∧ Below w.heap.size w w' := by
  have HB := Aside0.mk (Below.refl w.heap.size w)
  have H : ((math_IsNaN.f a0).bind fun t170 => (if t170 = true then (some (⟨#[110, 97, 110]⟩ : ByteArray)) else ((math_Signbit.f a0).bind fun t171 => (if t171 = true then (turncockref1_Shown.j0 k a0 (⟨#[45]⟩ : ByteArray)) else (turncockref1_Shown.j0 k a0 (⟨#[]⟩ : ByteArray)))))) = some r := h
  clear h
  replace H := Option.bind_eq_some_iff.mp H
  obtain ⟨t170, A20, H⟩ := H
  replace H : (if t170 = true then (some (⟨#[110, 97, 110]⟩ : ByteArray)) else ((math_Signbit.f a0).bind fun t171 => (if t171 = true then (turncockref1_Shown.j0 k a0 (⟨#[45]⟩ : ByteArray)) else (turncockref1_Shown.j0 k a0 (⟨#[]⟩ : ByteArray))))) = some r := H
  have A2 := Aside0.mk A20
  clear A20
  by_cases c3 : t170 = true
  · subst c3
    have H1 : (some (⟨#[110, 97, 110]⟩ : ByteArray)) = some r := by rw [if_pos rfl] at H; exact H
    clear H
    have H := H1
    clear H1
    obtain rfl := Option.some.inj H
    go_enter Try.func19, Try.ntmps19
    go_wp2_with (first | ((with_reducible refine gate_callee (f := 23) rfl ?_); refine goesL_ (some 10) rfl rfl Try.func23 (by kernel_rfl) rfl #[.float .f64 a0] rfl (by (try simp only [List.map_toArray, List.map_cons, List.map_nil]); first | done | rfl | (simp only [List.length_drop, List.length_take]; rfl)) ?_; (with_reducible refine (math_IsNaN.calls a0 true _ A2.out).mono ?_); rintro e w' ⟨rfl, ⟨nd, rfl⟩⟩; refine ⟨_, rfl, ?_⟩))
    go_ret
    exact ⟨by first | rfl | (simp [errW_none, errW_some] <;> rfl) | (simp [*, errW_none, errW_some] <;> rfl), by repeat (first | (with_reducible first | exact HB.out | apply below_alloc | apply pw_below_drewN | apply below_drew1) | exact HB.out)⟩
  · replace c3 := Bool.eq_false_iff.mpr c3
    subst c3
    have H1 : ((math_Signbit.f a0).bind fun t171 => (if t171 = true then (turncockref1_Shown.j0 k a0 (⟨#[45]⟩ : ByteArray)) else (turncockref1_Shown.j0 k a0 (⟨#[]⟩ : ByteArray)))) = some r := by rw [if_neg (show ¬ (false = true) by decide)] at H; exact H
    clear H
    have H := H1
    clear H1
    replace H := Option.bind_eq_some_iff.mp H
    obtain ⟨t171, A40, H⟩ := H
    replace H : (if t171 = true then (turncockref1_Shown.j0 k a0 (⟨#[45]⟩ : ByteArray)) else (turncockref1_Shown.j0 k a0 (⟨#[]⟩ : ByteArray))) = some r := H
    have A4 := Aside0.mk A40
    clear A40
    have HC5 := Aside0.mk H
    clear H
    go_enter Try.func19, Try.ntmps19
    go_upto_if 12 with (first | ((with_reducible refine gate_callee (f := 23) rfl ?_); refine goesL_ (some 10) rfl rfl Try.func23 (by kernel_rfl) rfl #[.float .f64 a0] rfl (by (try simp only [List.map_toArray, List.map_cons, List.map_nil]); first | done | rfl | (simp only [List.length_drop, List.length_take]; rfl)) ?_; (with_reducible refine (math_IsNaN.calls a0 false _ A2.out).mono ?_); rintro e w' ⟨rfl, ⟨nd, rfl⟩⟩; refine ⟨_, rfl, ?_⟩) | ((with_reducible refine gate_callee (f := 26) rfl ?_); refine goesL_ (some 12) rfl rfl Try.func26 (by kernel_rfl) rfl #[.float .f64 a0] rfl (by (try simp only [List.map_toArray, List.map_cons, List.map_nil]); first | done | rfl | (simp only [List.length_drop, List.length_take]; rfl)) ?_; (with_reducible refine (math_Signbit.calls a0 t171 _ A4.out).mono ?_); rintro e w' ⟨rfl, ⟨nd, rfl⟩⟩; refine ⟨_, rfl, ?_⟩))
    (try simp only [Act.put, List.setIfInBounds_toArray, List.set_cons_zero, List.set_cons_succ])
    go_cut [3] (fun v3 wc => ∃ (kq : Nat) (x3_4 : ByteArray), v3 = .string x3_4 ∧ Aside0 (turncockref1_Shown.j0 kq a0 x3_4 = some r) ∧ Aside0 (kq ≤ k) ∧ Aside0 (Below w.heap.size w wc))
    case first =>
      have H := HC5.out
      clear HC5
      by_cases c6 : t171 = true
      · subst c6
        have H1 : (turncockref1_Shown.j0 k a0 (⟨#[45]⟩ : ByteArray)) = some r := by rw [if_pos rfl] at H; exact H
        clear H
        have H := H1
        clear H1
        have H' := Aside0.mk H
        clear H
        go_wp2
        go_meet
        case rel => exact ⟨_, ((⟨#[45]⟩ : ByteArray)), (by first | rfl | (simp; done) | (simp [*]; done)), H', ⟨by first | omega | exact Nat.le_refl _⟩, ⟨by repeat (first | (with_reducible first | exact HB.out | apply below_alloc | apply pw_below_drewN | apply below_drew1) | exact HB.out)⟩⟩
      · replace c6 := Bool.eq_false_iff.mpr c6
        subst c6
        have H1 : (turncockref1_Shown.j0 k a0 (⟨#[]⟩ : ByteArray)) = some r := by rw [if_neg (show ¬ (false = true) by decide)] at H; exact H
        clear H
        have H := H1
        clear H1
        have H' := Aside0.mk H
        clear H
        go_wp2
        go_meet
        case rel => exact ⟨_, ((⟨#[]⟩ : ByteArray)), (by first | rfl | (simp; done) | (simp [*]; done)), H', ⟨by first | omega | exact Nat.le_refl _⟩, ⟨by repeat (first | (with_reducible first | exact HB.out | apply below_alloc | apply pw_below_drewN | apply below_drew1) | exact HB.out)⟩⟩
    case rest =>
      clear HC5
      try clear c1
      try clear c2
      try clear p2
      try clear c3
      try clear c6
      obtain ⟨kq, x3_4, rfl, HA, HJ4, HB⟩ := hcut
      cases kq with
      | zero => exact absurd HA.out (by simp [turncockref1_Shown.j0])
      | succ kj4 =>
        have H := HA.out
        clear HA
        simp only [turncockref1_Shown.j0] at H
        replace H := Option.bind_eq_some_iff.mp H
        obtain ⟨t172, A70, H⟩ := H
        replace H : (if t172 = true then (if x3_4.size + 3 ≤ 9223372036854775807 then (some (x3_4 ++ (⟨#[105, 110, 102]⟩ : ByteArray))) else (none)) else ((math_Abs.f a0).bind fun t173 => (if (fge t173 4845873199050653696) = true then (if x3_4.size + 3 ≤ 9223372036854775807 then (some (x3_4 ++ (⟨#[98, 105, 103]⟩ : ByteArray))) else (none)) else ((math_Floor.f t173).bind fun t174 => (if (fsubOk t173 t174) = true then (if (fmulOk (fsub t173 t174) 4652007308841189376) = true then ((math_Floor.f (fmul (fsub t173 t174) 4652007308841189376)).bind fun t175 => (if (f2iOk t175) = true then (if (f2iOk t174) = true then ((turncockref1_Digits.f kj4 (f2i t174)).bind fun t176 => (if x3_4.size + t176.size ≤ 9223372036854775807 then (if x3_4.size + t176.size + 1 ≤ 9223372036854775807 then ((turncockref1_filled.f kj4 (mn (f2i t175) 999) 3).bind fun t177 => (if x3_4.size + t176.size + 1 + t177.size ≤ 9223372036854775807 then (some (((x3_4 ++ t176) ++ (⟨#[46]⟩ : ByteArray)) ++ t177)) else (none))) else (none)) else (none))) else (none)) else (none))) else (none)) else (none)))))) = some r := H
        have A7 := Aside0.mk A70
        clear A70
        by_cases c8 : t172 = true
        · subst c8
          have H1 : (if x3_4.size + 3 ≤ 9223372036854775807 then (some (x3_4 ++ (⟨#[105, 110, 102]⟩ : ByteArray))) else (none)) = some r := by rw [if_pos rfl] at H; exact H
          clear H
          have H := H1
          clear H1
          by_cases c9 : x3_4.size + 3 ≤ 9223372036854775807
          · rw [if_pos c9] at H
            have c9b0 := eq_true c9
            have c9b1 : decide (x3_4.size + 3 ≤ 9223372036854775807) = true := decide_eq_true c9
            try have c9b2 : (9223372036854775807 < x3_4.size + 3) = False := eq_false (Nat.not_lt.2 c9)
            obtain rfl := Option.some.inj H
            go_wp2_with (first | ((with_reducible refine gate_callee (f := 25) rfl ?_); refine goesL_ (some 14) rfl rfl Try.func25 (by kernel_rfl) rfl #[.float .f64 a0, .int .i64 0] rfl (by (try simp only [List.map_toArray, List.map_cons, List.map_nil]); first | done | rfl | (simp only [List.length_drop, List.length_take]; rfl)) ?_; (with_reducible refine (math_IsInf.calls a0 0 true _ A7.out).mono ?_); rintro e w' ⟨rfl, ⟨nd, rfl⟩⟩; refine ⟨_, rfl, ?_⟩))
            go_ret
            exact ⟨by first | rfl | (simp [errW_none, errW_some] <;> rfl) | (simp [*, errW_none, errW_some] <;> rfl), by repeat (first | (with_reducible first | exact HB.out | apply below_alloc | apply pw_below_drewN | apply below_drew1) | exact HB.out)⟩
          · rw [if_neg c9] at H
            exact absurd H (by simp)
        · replace c8 := Bool.eq_false_iff.mpr c8
          subst c8
          have H1 : ((math_Abs.f a0).bind fun t173 => (if (fge t173 4845873199050653696) = true then (if x3_4.size + 3 ≤ 9223372036854775807 then (some (x3_4 ++ (⟨#[98, 105, 103]⟩ : ByteArray))) else (none)) else ((math_Floor.f t173).bind fun t174 => (if (fsubOk t173 t174) = true then (if (fmulOk (fsub t173 t174) 4652007308841189376) = true then ((math_Floor.f (fmul (fsub t173 t174) 4652007308841189376)).bind fun t175 => (if (f2iOk t175) = true then (if (f2iOk t174) = true then ((turncockref1_Digits.f kj4 (f2i t174)).bind fun t176 => (if x3_4.size + t176.size ≤ 9223372036854775807 then (if x3_4.size + t176.size + 1 ≤ 9223372036854775807 then ((turncockref1_filled.f kj4 (mn (f2i t175) 999) 3).bind fun t177 => (if x3_4.size + t176.size + 1 + t177.size ≤ 9223372036854775807 then (some (((x3_4 ++ t176) ++ (⟨#[46]⟩ : ByteArray)) ++ t177)) else (none))) else (none)) else (none))) else (none)) else (none))) else (none)) else (none))))) = some r := by rw [if_neg (show ¬ (false = true) by decide)] at H; exact H
          clear H
          have H := H1
          clear H1
          replace H := Option.bind_eq_some_iff.mp H
          obtain ⟨t173, A100, H⟩ := H
          replace H : (if (fge t173 4845873199050653696) = true then (if x3_4.size + 3 ≤ 9223372036854775807 then (some (x3_4 ++ (⟨#[98, 105, 103]⟩ : ByteArray))) else (none)) else ((math_Floor.f t173).bind fun t174 => (if (fsubOk t173 t174) = true then (if (fmulOk (fsub t173 t174) 4652007308841189376) = true then ((math_Floor.f (fmul (fsub t173 t174) 4652007308841189376)).bind fun t175 => (if (f2iOk t175) = true then (if (f2iOk t174) = true then ((turncockref1_Digits.f kj4 (f2i t174)).bind fun t176 => (if x3_4.size + t176.size ≤ 9223372036854775807 then (if x3_4.size + t176.size + 1 ≤ 9223372036854775807 then ((turncockref1_filled.f kj4 (mn (f2i t175) 999) 3).bind fun t177 => (if x3_4.size + t176.size + 1 + t177.size ≤ 9223372036854775807 then (some (((x3_4 ++ t176) ++ (⟨#[46]⟩ : ByteArray)) ++ t177)) else (none))) else (none)) else (none))) else (none)) else (none))) else (none)) else (none)))) = some r := H
          have A10 := Aside0.mk A100
          clear A100
          by_cases c11 : (fge t173 4845873199050653696) = true
          · rw [if_pos c11] at H
            have c11b0 : (fge t173 4845873199050653696) = true := c11
            clear c11
            by_cases c12 : x3_4.size + 3 ≤ 9223372036854775807
            · rw [if_pos c12] at H
              have c12b0 := eq_true c12
              have c12b1 : decide (x3_4.size + 3 ≤ 9223372036854775807) = true := decide_eq_true c12
              try have c12b2 : (9223372036854775807 < x3_4.size + 3) = False := eq_false (Nat.not_lt.2 c12)
              obtain rfl := Option.some.inj H
              go_wp2_with (first | ((with_reducible refine gate_callee (f := 25) rfl ?_); refine goesL_ (some 14) rfl rfl Try.func25 (by kernel_rfl) rfl #[.float .f64 a0, .int .i64 0] rfl (by (try simp only [List.map_toArray, List.map_cons, List.map_nil]); first | done | rfl | (simp only [List.length_drop, List.length_take]; rfl)) ?_; (with_reducible refine (math_IsInf.calls a0 0 false _ A7.out).mono ?_); rintro e w' ⟨rfl, ⟨nd, rfl⟩⟩; refine ⟨_, rfl, ?_⟩) | ((with_reducible refine gate_callee (f := 43) rfl ?_); refine goesL_ (some 18) rfl rfl Try.func43 (by kernel_rfl) rfl #[.float .f64 a0] rfl (by (try simp only [List.map_toArray, List.map_cons, List.map_nil]); first | done | rfl | (simp only [List.length_drop, List.length_take]; rfl)) ?_; (with_reducible refine (math_Abs.calls a0 t173 _ A10.out).mono ?_); rintro e w' ⟨rfl, ⟨nd, rfl⟩⟩; refine ⟨_, rfl, ?_⟩))
              go_ret
              exact ⟨by first | rfl | (simp [errW_none, errW_some] <;> rfl) | (simp [*, errW_none, errW_some] <;> rfl), by repeat (first | (with_reducible first | exact HB.out | apply below_alloc | apply pw_below_drewN | apply below_drew1) | exact HB.out)⟩
            · rw [if_neg c12] at H
              exact absurd H (by simp)
          · rw [if_neg c11] at H
            have c11b0 : (fge t173 4845873199050653696) = false := by simpa using c11
            clear c11
            replace H := Option.bind_eq_some_iff.mp H
            obtain ⟨t174, A130, H⟩ := H
            replace H : (if (fsubOk t173 t174) = true then (if (fmulOk (fsub t173 t174) 4652007308841189376) = true then ((math_Floor.f (fmul (fsub t173 t174) 4652007308841189376)).bind fun t175 => (if (f2iOk t175) = true then (if (f2iOk t174) = true then ((turncockref1_Digits.f kj4 (f2i t174)).bind fun t176 => (if x3_4.size + t176.size ≤ 9223372036854775807 then (if x3_4.size + t176.size + 1 ≤ 9223372036854775807 then ((turncockref1_filled.f kj4 (mn (f2i t175) 999) 3).bind fun t177 => (if x3_4.size + t176.size + 1 + t177.size ≤ 9223372036854775807 then (some (((x3_4 ++ t176) ++ (⟨#[46]⟩ : ByteArray)) ++ t177)) else (none))) else (none)) else (none))) else (none)) else (none))) else (none)) else (none)) = some r := H
            have A13 := Aside0.mk A130
            clear A130
            by_cases c14 : (fsubOk t173 t174) = true
            · rw [if_pos c14] at H
              have c14b0 := eq_true c14
              have c14b1 : decide ((fsubOk t173 t174) = true) = true := decide_eq_true c14
              clear c14
              by_cases c15 : (fmulOk (fsub t173 t174) 4652007308841189376) = true
              · rw [if_pos c15] at H
                have c15b0 := eq_true c15
                have c15b1 : decide ((fmulOk (fsub t173 t174) 4652007308841189376) = true) = true := decide_eq_true c15
                clear c15
                replace H := Option.bind_eq_some_iff.mp H
                obtain ⟨t175, A160, H⟩ := H
                replace H : (if (f2iOk t175) = true then (if (f2iOk t174) = true then ((turncockref1_Digits.f kj4 (f2i t174)).bind fun t176 => (if x3_4.size + t176.size ≤ 9223372036854775807 then (if x3_4.size + t176.size + 1 ≤ 9223372036854775807 then ((turncockref1_filled.f kj4 (mn (f2i t175) 999) 3).bind fun t177 => (if x3_4.size + t176.size + 1 + t177.size ≤ 9223372036854775807 then (some (((x3_4 ++ t176) ++ (⟨#[46]⟩ : ByteArray)) ++ t177)) else (none))) else (none)) else (none))) else (none)) else (none)) = some r := H
                have A16 := Aside0.mk A160
                clear A160
                by_cases c17 : (f2iOk t175) = true
                · rw [if_pos c17] at H
                  have c17b0 := eq_true c17
                  have c17b1 : decide ((f2iOk t175) = true) = true := decide_eq_true c17
                  clear c17
                  obtain ⟨ji18, hji18⟩ : ∃ j_ : Int, (mn (f2i t175) 999) = j_ := ⟨_, rfl⟩
                  replace H : (if (f2iOk t174) = true then ((turncockref1_Digits.f kj4 (f2i t174)).bind fun t176 => (if x3_4.size + t176.size ≤ 9223372036854775807 then (if x3_4.size + t176.size + 1 ≤ 9223372036854775807 then ((turncockref1_filled.f kj4 (ji18) 3).bind fun t177 => (if x3_4.size + t176.size + 1 + t177.size ≤ 9223372036854775807 then (some (((x3_4 ++ t176) ++ (⟨#[46]⟩ : ByteArray)) ++ t177)) else (none))) else (none)) else (none))) else (none)) = some r := by first | (rw [hji18] at H; exact H) | (simp only [hji18] at H ⊢; exact H)
                  (try rw [hji18] at A7)
                  (try rw [hji18] at A10)
                  (try rw [hji18] at A13)
                  (try rw [hji18] at A16)
                  (try (have hji18h : ji18 ≤ 999 := by (rw [← hji18]; unfold mn; (repeat' split) <;> omega)))
                  (try (have hji18g : ji18 ≤ 64 := by omega))
                  have hji18_ : (if 999 < (f2i t175) then 999 else (f2i t175)) = ji18 := hji18
                  by_cases c19 : (f2iOk t174) = true
                  · rw [if_pos c19] at H
                    have c19b0 := eq_true c19
                    have c19b1 : decide ((f2iOk t174) = true) = true := decide_eq_true c19
                    clear c19
                    replace H := Option.bind_eq_some_iff.mp H
                    obtain ⟨t176, A200, H⟩ := H
                    replace H : (if x3_4.size + t176.size ≤ 9223372036854775807 then (if x3_4.size + t176.size + 1 ≤ 9223372036854775807 then ((turncockref1_filled.f kj4 (ji18) 3).bind fun t177 => (if x3_4.size + t176.size + 1 + t177.size ≤ 9223372036854775807 then (some (((x3_4 ++ t176) ++ (⟨#[46]⟩ : ByteArray)) ++ t177)) else (none))) else (none)) else (none)) = some r := H
                    have A20 := Aside0.mk A200
                    clear A200
                    by_cases c21 : x3_4.size + t176.size ≤ 9223372036854775807
                    · rw [if_pos c21] at H
                      have c21b0 := eq_true c21
                      have c21b1 : decide (x3_4.size + t176.size ≤ 9223372036854775807) = true := decide_eq_true c21
                      try have c21b2 : (9223372036854775807 < x3_4.size + t176.size) = False := eq_false (Nat.not_lt.2 c21)
                      by_cases c22 : x3_4.size + t176.size + 1 ≤ 9223372036854775807
                      · rw [if_pos c22] at H
                        have c22b0 := eq_true c22
                        have c22b1 : decide (x3_4.size + t176.size + 1 ≤ 9223372036854775807) = true := decide_eq_true c22
                        try have c22b2 : (9223372036854775807 < x3_4.size + t176.size + 1) = False := eq_false (Nat.not_lt.2 c22)
                        replace H := Option.bind_eq_some_iff.mp H
                        obtain ⟨t177, A230, H⟩ := H
                        replace H : (if x3_4.size + t176.size + 1 + t177.size ≤ 9223372036854775807 then (some (((x3_4 ++ t176) ++ (⟨#[46]⟩ : ByteArray)) ++ t177)) else (none)) = some r := H
                        have A23 := Aside0.mk A230
                        clear A230
                        by_cases c24 : x3_4.size + t176.size + 1 + t177.size ≤ 9223372036854775807
                        · rw [if_pos c24] at H
                          have c24b0 := eq_true c24
                          have c24b1 : decide (x3_4.size + t176.size + 1 + t177.size ≤ 9223372036854775807) = true := decide_eq_true c24
                          try have c24b2 : (9223372036854775807 < x3_4.size + t176.size + 1 + t177.size) = False := eq_false (Nat.not_lt.2 c24)
                          obtain rfl := Option.some.inj H
                          go_wp2_with (first | ((with_reducible refine gate_callee (f := 25) rfl ?_); refine goesL_ (some 14) rfl rfl Try.func25 (by kernel_rfl) rfl #[.float .f64 a0, .int .i64 0] rfl (by (try simp only [List.map_toArray, List.map_cons, List.map_nil]); first | done | rfl | (simp only [List.length_drop, List.length_take]; rfl)) ?_; (with_reducible refine (math_IsInf.calls a0 0 false _ A7.out).mono ?_); rintro e w' ⟨rfl, ⟨nd, rfl⟩⟩; refine ⟨_, rfl, ?_⟩) | ((with_reducible refine gate_callee (f := 43) rfl ?_); refine goesL_ (some 18) rfl rfl Try.func43 (by kernel_rfl) rfl #[.float .f64 a0] rfl (by (try simp only [List.map_toArray, List.map_cons, List.map_nil]); first | done | rfl | (simp only [List.length_drop, List.length_take]; rfl)) ?_; (with_reducible refine (math_Abs.calls a0 t173 _ A10.out).mono ?_); rintro e w' ⟨rfl, ⟨nd, rfl⟩⟩; refine ⟨_, rfl, ?_⟩) | ((with_reducible refine gate_callee (f := 44) rfl ?_); refine goesL_ (some 24) rfl rfl Try.func44 (by kernel_rfl) rfl #[.float .f64 t173] rfl (by (try simp only [List.map_toArray, List.map_cons, List.map_nil]); first | done | rfl | (simp only [List.length_drop, List.length_take]; rfl)) ?_; (with_reducible refine (math_Floor.calls t173 t174 _ A13.out).mono ?_); rintro e w' ⟨rfl, ⟨nd, rfl⟩⟩; refine ⟨_, rfl, ?_⟩) | ((with_reducible refine gate_callee (f := 44) rfl ?_); refine goesL_ (some 31) rfl rfl Try.func44 (by kernel_rfl) rfl #[.float .f64 (fmul (fsub t173 t174) 4652007308841189376)] rfl (by (try simp only [List.map_toArray, List.map_cons, List.map_nil]); first | done | rfl | (simp only [List.length_drop, List.length_take]; rfl)) ?_; (with_reducible refine (math_Floor.calls (fmul (fsub t173 t174) 4652007308841189376) t175 _ A16.out).mono ?_); rintro e w' ⟨rfl, ⟨nd, rfl⟩⟩; refine ⟨_, rfl, ?_⟩) | ((with_reducible refine gate_callee (f := 45) rfl ?_); refine goesL_ (some 37) rfl rfl Try.func45 (by kernel_rfl) rfl #[.int .i64 (f2i t174)] rfl (by (try simp only [List.map_toArray, List.map_cons, List.map_nil]); first | done | rfl | (simp only [List.length_drop, List.length_take]; rfl)) ?_; (with_reducible refine (turncockref1_Digits.calls kj4 (f2i t174) t176 _ A20.out).mono ?_); rintro e w25 ⟨rfl, hb⟩; refine ⟨_, rfl, ?_⟩; have n0_ := Aside0.mk (below_step (by repeat (first | (with_reducible first | exact HB.out | apply below_alloc | apply pw_below_drewN | apply below_drew1) | exact HB.out)) hb); clear HB; have HB := n0_; clear n0_; (try clear hb); (try clear hb2); (try clear hk); (try clear hi)) | ((with_reducible refine gate_callee (f := 46) rfl ?_); refine goesL_ (some 41) rfl rfl Try.func46 (by kernel_rfl) rfl #[.int .i64 ji18, .int .i64 3] rfl (by (try simp only [List.map_toArray, List.map_cons, List.map_nil]); first | done | (simp only [hji18]; rfl) | rfl | (simp only [List.length_drop, List.length_take]; rfl)) ?_; (with_reducible refine (turncockref1_filled.calls kj4 ji18 3 t177 _ A23.out).mono ?_); rintro e w26 ⟨rfl, hb⟩; refine ⟨_, rfl, ?_⟩; have n0_ := Aside0.mk (below_step (by repeat (first | (with_reducible first | exact HB.out | apply below_alloc | apply pw_below_drewN | apply below_drew1) | exact HB.out)) hb); clear HB; have HB := n0_; clear n0_; (try clear hb); (try clear hb2); (try clear hk); (try clear hi)))
                          go_ret
                          exact ⟨by first | rfl | (simp [errW_none, errW_some] <;> rfl) | (simp only [← hji18]; first | rfl | (simp [errW_none, errW_some] <;> rfl)) | (simp [*, errW_none, errW_some] <;> rfl), by repeat (first | (with_reducible first | exact HB.out | apply below_alloc | apply pw_below_drewN | apply below_drew1) | exact HB.out)⟩
                        · rw [if_neg c24] at H
                          exact absurd H (by simp)
                      · rw [if_neg c22] at H
                        exact absurd H (by simp)
                    · rw [if_neg c21] at H
                      exact absurd H (by simp)
                  · rw [if_neg c19] at H
                    exact absurd H (by simp)
                · rw [if_neg c17] at H
                  exact absurd H (by simp)
              · rw [if_neg c15] at H
                exact absurd H (by simp)
            · rw [if_neg c14] at H
              exact absurd H (by simp)

/-! ### turncockref1_Of: function 20 (my own) -/
def turncockref1_Of.f (a0 : Int) (a1 : Int) : Option (Nat) := some (fquoT (fofi a0) (fofi a1))
set_option maxRecDepth 100000 in
theorem turncockref1_Of.calls (a0 : Int) (a1 : Int) (r : Nat) (w : World) (h : turncockref1_Of.f a0 a1 = some r) :
    Calls Try.prog 20 #[.int .i64 a0, .int .i64 a1] w fun e w' => ∃ z, fsim z r ∧ e = .returned (.float .f64 z) ∧ Drawn0 w w' := by
  have hr := Option.some.inj h
  clear h
  unfold fquoT at hr
  by_cases h1 : fquoOk (fofi a0) (fofi a1) = true
  · have hs := Aside0.mk (show fsim (fquo (fofi a0) (fofi a1)) r from by rw [← hr, if_pos h1]; exact .inl rfl)
    clear hr
    go_enter Try.func20, Try.ntmps20
    go_wp2
    go_ret
    exact ⟨_, hs.out, rfl, by repeat (first | exact Drawn0.refl _ | apply Drawn0.step)⟩
  · have h2 : fquoOk (fofi a0) (fofi a1) = false := by simpa using h1
    have hs : Aside0 (∀ W : World, fsim (fnanZ W (fofi a0) (fofi a1)) r) := ⟨fun W => by rw [← hr, if_neg h1]; exact .inr ⟨fnanZ_nan W _ _, by decide⟩⟩
    have hq : ∀ (t : TypeId) (W : World), (binOp .quo t (.float .f64 (fofi a0)) (.float .f64 (fofi a1))).run Try.prog W = .ok (.float .f64 (fnanZ W (fofi a0) (fofi a1))) (W.drewN 1) := fun t W => run_fquo_nan W t _ _ h2
    clear h1 h2 hr
    go_enter Try.func20, Try.ntmps20
    go_wp2
    go_ret
    exact ⟨_, hs.out _, rfl, by repeat (first | exact Drawn0.refl _ | apply Drawn0.step)⟩
set_option maxRecDepth 100000 in
theorem turncockref1_Of.calls_ok (a0 : Int) (a1 : Int) (r : Nat) (w : World) (hq : fquoOk (fofi a0) (fofi a1) = true) (h : turncockref1_Of.f a0 a1 = some r) :
    Calls Try.prog 20 #[.int .i64 a0, .int .i64 a1] w fun e w' => e = .returned (.float .f64 r) ∧ Drawn0 w w' := by
  have hr : r = fquo (fofi a0) (fofi a1) := by
    have hr := Option.some.inj h
    unfold fquoT at hr
    rw [if_pos hq] at hr
    exact hr.symm
  subst hr
  clear h
  go_enter Try.func20, Try.ntmps20
  go_wp2
  go_ret
  exact ⟨rfl, by repeat (first | exact Drawn0.refl _ | apply Drawn0.step)⟩

end Go.Proofs.Ytoopmkinpandfaa.PHeadOf
