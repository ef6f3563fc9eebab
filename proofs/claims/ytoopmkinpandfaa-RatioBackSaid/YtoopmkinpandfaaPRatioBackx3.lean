-- WRITTEN BY THIS SESSION'S mprint.py upon the print: some functions are proved by hand
import Derived.Test.YtoopmkinpandfaaPRatioBackx0
import Derived.Test.YtoopmkinpandfaaPRatioBackx1
import Derived.Test.YtoopmkinpandfaaPRatioBackx2
namespace Go.Proofs.Ytoopmkinpandfaa.PRatioBack
open Go.RowKit Go.Proofs.YtoopmkinpandfaaW.PrintWords Go.Proofs.YtoopmkinpandfaaW.PrintLast Go.Proofs.YtoopmkinpandfaaW.PrintMore
attribute [local go_sem] max2_int min2_int max_two min_two max_three min_three max_four min_four   -- for this text's walks alone
set_option linter.unusedVariables false
set_option linter.unusedSimpArgs false

/-! ### ratio_Text: function 37 -/
def ratio_Text.j0 : Nat → Nat → ByteArray → Option (ByteArray)
  | 0, _, _ => none
  | k + 1, x0, x3 => (math_Abs.f x0).bind fun t149 => (if (fge t149 4845873199050653696) = true then (if x3.size + 3 ≤ 9223372036854775807 then (some (x3 ++ (⟨#[98, 105, 103]⟩ : ByteArray))) else (none)) else (if (f2iOk t149) = true then (if (fsubOk t149 (fofi (f2i t149))) = true then (if (fmulOk (fsub t149 (fofi (f2i t149))) 4652007308841189376) = true then (if (f2iOk (fmul (fsub t149 (fofi (f2i t149))) 4652007308841189376)) = true then ((num_Digits.f k (f2i t149)).bind fun t150 => (if x3.size + t150.size ≤ 9223372036854775807 then (if x3.size + t150.size + 1 ≤ 9223372036854775807 then ((ratio_fill.f k (mn (f2i (fmul (fsub t149 (fofi (f2i t149))) 4652007308841189376)) 999) 3).bind fun t151 => (if x3.size + t150.size + 1 + t151.size ≤ 9223372036854775807 then (some (((x3 ++ t150) ++ (⟨#[46]⟩ : ByteArray)) ++ t151)) else (none))) else (none)) else (none))) else (none)) else (none)) else (none)) else (none)))
def ratio_Text.f (k : Nat) (a0 : Nat) : Option (ByteArray) := (math_IsNaN.f a0).bind fun t145 => (if t145 = true then (some (⟨#[110, 97, 110]⟩ : ByteArray)) else ((math_IsInf.f a0 1).bind fun t146 => (if t146 = true then (some (⟨#[105, 110, 102]⟩ : ByteArray)) else ((math_IsInf.f a0 (-1)).bind fun t147 => (if t147 = true then (some (⟨#[45, 105, 110, 102]⟩ : ByteArray)) else ((math_Signbit.f a0).bind fun t148 => (if t148 = true then (ratio_Text.j0 k a0 (⟨#[45]⟩ : ByteArray)) else (ratio_Text.j0 k a0 (⟨#[]⟩ : ByteArray)))))))))
theorem ratio_Text.mono_l : ∀ k, (∀ y0 y1, LeO (ratio_Text.j0 k y0 y1) (ratio_Text.j0 (k + 1) y0 y1))
  | 0 => fun _ _ r h => by simp [ratio_Text.j0] at h
  | k + 1 => by
    have ih0 := ratio_Text.mono_l k
    · intro y0 y1
      unfold ratio_Text.j0
      repeat' first
      | (with_reducible exact ih0 _ _)
      | (with_reducible exact num_Digits.mono _ _)
      | (with_reducible exact ratio_fill.mono _ _ _)
      | (with_reducible exact LeO.refl _)
      | (with_reducible exact LeO.none _)
      | (with_reducible refine LeO.ite ?_ ?_)
      | (with_reducible refine LeO.bind ?_ (fun _ => ?_))
      | exact ih0 _ _
      | exact num_Digits.mono _ _
      | exact ratio_fill.mono _ _ _
      | exact LeO.none _
      | refine LeO.ite ?_ ?_
      | refine LeO.bind ?_ (fun _ => ?_)
theorem ratio_Text.mono : ∀ a0 k, LeO (ratio_Text.f k a0) (ratio_Text.f (k + 1) a0) := by
  intro a0 k
  have ih0 := ratio_Text.mono_l k
  unfold ratio_Text.f
  repeat' first
      | (with_reducible exact ih0 _ _)
      | (with_reducible exact num_Digits.mono _ _)
      | (with_reducible exact ratio_fill.mono _ _ _)
      | (with_reducible exact LeO.refl _)
      | (with_reducible exact LeO.none _)
      | (with_reducible refine LeO.ite ?_ ?_)
      | (with_reducible refine LeO.bind ?_ (fun _ => ?_))
      | exact ih0 _ _
      | exact num_Digits.mono _ _
      | exact ratio_fill.mono _ _ _
      | exact LeO.none _
      | refine LeO.ite ?_ ?_
      | refine LeO.bind ?_ (fun _ => ?_)
set_option maxHeartbeats 8000000 in
set_option maxRecDepth 100000 in
theorem ratio_Text.calls (k : Nat) (a0 : Nat) (r : ByteArray) (w : World) (h : ratio_Text.f k a0 = some r) :
    Calls Try.prog 37 #[.float .f64 a0] w fun e w' => e = .returned (.string r) ∧ Below w.heap.size w w' := by
  have HB := Aside0.mk (Below.refl w.heap.size w)
  have H : ((math_IsNaN.f a0).bind fun t145 => (if t145 = true then (some (⟨#[110, 97, 110]⟩ : ByteArray)) else ((math_IsInf.f a0 1).bind fun t146 => (if t146 = true then (some (⟨#[105, 110, 102]⟩ : ByteArray)) else ((math_IsInf.f a0 (-1)).bind fun t147 => (if t147 = true then (some (⟨#[45, 105, 110, 102]⟩ : ByteArray)) else ((math_Signbit.f a0).bind fun t148 => (if t148 = true then (ratio_Text.j0 k a0 (⟨#[45]⟩ : ByteArray)) else (ratio_Text.j0 k a0 (⟨#[]⟩ : ByteArray)))))))))) = some r := h
  clear h
  replace H := Option.bind_eq_some_iff.mp H
  obtain ⟨t145, A20, H⟩ := H
  replace H : (if t145 = true then (some (⟨#[110, 97, 110]⟩ : ByteArray)) else ((math_IsInf.f a0 1).bind fun t146 => (if t146 = true then (some (⟨#[105, 110, 102]⟩ : ByteArray)) else ((math_IsInf.f a0 (-1)).bind fun t147 => (if t147 = true then (some (⟨#[45, 105, 110, 102]⟩ : ByteArray)) else ((math_Signbit.f a0).bind fun t148 => (if t148 = true then (ratio_Text.j0 k a0 (⟨#[45]⟩ : ByteArray)) else (ratio_Text.j0 k a0 (⟨#[]⟩ : ByteArray))))))))) = some r := H
  have A2 := Aside0.mk A20
  clear A20
  by_cases c3 : t145 = true
  · subst c3
    have H1 : (some (⟨#[110, 97, 110]⟩ : ByteArray)) = some r := by rw [if_pos rfl] at H; exact H
    clear H
    have H := H1
    clear H1
    obtain rfl := Option.some.inj H
    go_enter Try.func37, Try.ntmps37
    go_wp2_with (first | ((with_reducible refine gate_callee (f := 23) rfl ?_); refine goesL_ (some 9) rfl rfl Try.func23 (by kernel_rfl) rfl #[.float .f64 a0] rfl (by (try simp only [List.map_toArray, List.map_cons, List.map_nil]); first | done | rfl | (simp only [List.length_drop, List.length_take]; rfl)) ?_; (with_reducible refine (math_IsNaN.calls a0 true _ A2.out).mono ?_); rintro e w' ⟨rfl, ⟨nd, rfl⟩⟩; refine ⟨_, rfl, ?_⟩))
    go_ret
    exact ⟨by first | rfl | (simp [errW_none, errW_some] <;> rfl) | (simp [*, errW_none, errW_some] <;> rfl), by repeat (first | (with_reducible first | exact HB.out | apply below_alloc | apply pw_below_drewN | apply below_drew1) | exact HB.out)⟩
  · replace c3 := Bool.eq_false_iff.mpr c3
    subst c3
    have H1 : ((math_IsInf.f a0 1).bind fun t146 => (if t146 = true then (some (⟨#[105, 110, 102]⟩ : ByteArray)) else ((math_IsInf.f a0 (-1)).bind fun t147 => (if t147 = true then (some (⟨#[45, 105, 110, 102]⟩ : ByteArray)) else ((math_Signbit.f a0).bind fun t148 => (if t148 = true then (ratio_Text.j0 k a0 (⟨#[45]⟩ : ByteArray)) else (ratio_Text.j0 k a0 (⟨#[]⟩ : ByteArray)))))))) = some r := by rw [if_neg (show ¬ (false = true) by decide)] at H; exact H
    clear H
    have H := H1
    clear H1
    replace H := Option.bind_eq_some_iff.mp H
    obtain ⟨t146, A40, H⟩ := H
    replace H : (if t146 = true then (some (⟨#[105, 110, 102]⟩ : ByteArray)) else ((math_IsInf.f a0 (-1)).bind fun t147 => (if t147 = true then (some (⟨#[45, 105, 110, 102]⟩ : ByteArray)) else ((math_Signbit.f a0).bind fun t148 => (if t148 = true then (ratio_Text.j0 k a0 (⟨#[45]⟩ : ByteArray)) else (ratio_Text.j0 k a0 (⟨#[]⟩ : ByteArray))))))) = some r := H
    have A4 := Aside0.mk A40
    clear A40
    by_cases c5 : t146 = true
    · subst c5
      have H1 : (some (⟨#[105, 110, 102]⟩ : ByteArray)) = some r := by rw [if_pos rfl] at H; exact H
      clear H
      have H := H1
      clear H1
      obtain rfl := Option.some.inj H
      go_enter Try.func37, Try.ntmps37
      go_wp2_with (first | ((with_reducible refine gate_callee (f := 23) rfl ?_); refine goesL_ (some 9) rfl rfl Try.func23 (by kernel_rfl) rfl #[.float .f64 a0] rfl (by (try simp only [List.map_toArray, List.map_cons, List.map_nil]); first | done | rfl | (simp only [List.length_drop, List.length_take]; rfl)) ?_; (with_reducible refine (math_IsNaN.calls a0 false _ A2.out).mono ?_); rintro e w' ⟨rfl, ⟨nd, rfl⟩⟩; refine ⟨_, rfl, ?_⟩) | ((with_reducible refine gate_callee (f := 25) rfl ?_); refine goesL_ (some 12) rfl rfl Try.func25 (by kernel_rfl) rfl #[.float .f64 a0, .int .i64 1] rfl (by (try simp only [List.map_toArray, List.map_cons, List.map_nil]); first | done | rfl | (simp only [List.length_drop, List.length_take]; rfl)) ?_; (with_reducible refine (math_IsInf.calls a0 1 true _ A4.out).mono ?_); rintro e w' ⟨rfl, ⟨nd, rfl⟩⟩; refine ⟨_, rfl, ?_⟩))
      go_ret
      exact ⟨by first | rfl | (simp [errW_none, errW_some] <;> rfl) | (simp [*, errW_none, errW_some] <;> rfl), by repeat (first | (with_reducible first | exact HB.out | apply below_alloc | apply pw_below_drewN | apply below_drew1) | exact HB.out)⟩
    · replace c5 := Bool.eq_false_iff.mpr c5
      subst c5
      have H1 : ((math_IsInf.f a0 (-1)).bind fun t147 => (if t147 = true then (some (⟨#[45, 105, 110, 102]⟩ : ByteArray)) else ((math_Signbit.f a0).bind fun t148 => (if t148 = true then (ratio_Text.j0 k a0 (⟨#[45]⟩ : ByteArray)) else (ratio_Text.j0 k a0 (⟨#[]⟩ : ByteArray)))))) = some r := by rw [if_neg (show ¬ (false = true) by decide)] at H; exact H
      clear H
      have H := H1
      clear H1
      replace H := Option.bind_eq_some_iff.mp H
      obtain ⟨t147, A60, H⟩ := H
      replace H : (if t147 = true then (some (⟨#[45, 105, 110, 102]⟩ : ByteArray)) else ((math_Signbit.f a0).bind fun t148 => (if t148 = true then (ratio_Text.j0 k a0 (⟨#[45]⟩ : ByteArray)) else (ratio_Text.j0 k a0 (⟨#[]⟩ : ByteArray))))) = some r := H
      have A6 := Aside0.mk A60
      clear A60
      by_cases c7 : t147 = true
      · subst c7
        have H1 : (some (⟨#[45, 105, 110, 102]⟩ : ByteArray)) = some r := by rw [if_pos rfl] at H; exact H
        clear H
        have H := H1
        clear H1
        obtain rfl := Option.some.inj H
        go_enter Try.func37, Try.ntmps37
        go_wp2_with (first | ((with_reducible refine gate_callee (f := 23) rfl ?_); refine goesL_ (some 9) rfl rfl Try.func23 (by kernel_rfl) rfl #[.float .f64 a0] rfl (by (try simp only [List.map_toArray, List.map_cons, List.map_nil]); first | done | rfl | (simp only [List.length_drop, List.length_take]; rfl)) ?_; (with_reducible refine (math_IsNaN.calls a0 false _ A2.out).mono ?_); rintro e w' ⟨rfl, ⟨nd, rfl⟩⟩; refine ⟨_, rfl, ?_⟩) | ((with_reducible refine gate_callee (f := 25) rfl ?_); refine goesL_ (some 12) rfl rfl Try.func25 (by kernel_rfl) rfl #[.float .f64 a0, .int .i64 1] rfl (by (try simp only [List.map_toArray, List.map_cons, List.map_nil]); first | done | rfl | (simp only [List.length_drop, List.length_take]; rfl)) ?_; (with_reducible refine (math_IsInf.calls a0 1 false _ A4.out).mono ?_); rintro e w' ⟨rfl, ⟨nd, rfl⟩⟩; refine ⟨_, rfl, ?_⟩) | ((with_reducible refine gate_callee (f := 25) rfl ?_); refine goesL_ (some 15) rfl rfl Try.func25 (by kernel_rfl) rfl #[.float .f64 a0, .int .i64 (-1)] rfl (by (try simp only [List.map_toArray, List.map_cons, List.map_nil]); first | done | rfl | (simp only [List.length_drop, List.length_take]; rfl)) ?_; (with_reducible refine (math_IsInf.calls a0 (-1) true _ A6.out).mono ?_); rintro e w' ⟨rfl, ⟨nd, rfl⟩⟩; refine ⟨_, rfl, ?_⟩))
        go_ret
        exact ⟨by first | rfl | (simp [errW_none, errW_some] <;> rfl) | (simp [*, errW_none, errW_some] <;> rfl), by repeat (first | (with_reducible first | exact HB.out | apply below_alloc | apply pw_below_drewN | apply below_drew1) | exact HB.out)⟩
      · replace c7 := Bool.eq_false_iff.mpr c7
        subst c7
        have H1 : ((math_Signbit.f a0).bind fun t148 => (if t148 = true then (ratio_Text.j0 k a0 (⟨#[45]⟩ : ByteArray)) else (ratio_Text.j0 k a0 (⟨#[]⟩ : ByteArray)))) = some r := by rw [if_neg (show ¬ (false = true) by decide)] at H; exact H
        clear H
        have H := H1
        clear H1
        replace H := Option.bind_eq_some_iff.mp H
        obtain ⟨t148, A80, H⟩ := H
        replace H : (if t148 = true then (ratio_Text.j0 k a0 (⟨#[45]⟩ : ByteArray)) else (ratio_Text.j0 k a0 (⟨#[]⟩ : ByteArray))) = some r := H
        have A8 := Aside0.mk A80
        clear A80
        have HC9 := Aside0.mk H
        clear H
        go_enter Try.func37, Try.ntmps37
        go_upto_if 17 with (first | ((with_reducible refine gate_callee (f := 23) rfl ?_); refine goesL_ (some 9) rfl rfl Try.func23 (by kernel_rfl) rfl #[.float .f64 a0] rfl (by (try simp only [List.map_toArray, List.map_cons, List.map_nil]); first | done | rfl | (simp only [List.length_drop, List.length_take]; rfl)) ?_; (with_reducible refine (math_IsNaN.calls a0 false _ A2.out).mono ?_); rintro e w' ⟨rfl, ⟨nd, rfl⟩⟩; refine ⟨_, rfl, ?_⟩) | ((with_reducible refine gate_callee (f := 25) rfl ?_); refine goesL_ (some 12) rfl rfl Try.func25 (by kernel_rfl) rfl #[.float .f64 a0, .int .i64 1] rfl (by (try simp only [List.map_toArray, List.map_cons, List.map_nil]); first | done | rfl | (simp only [List.length_drop, List.length_take]; rfl)) ?_; (with_reducible refine (math_IsInf.calls a0 1 false _ A4.out).mono ?_); rintro e w' ⟨rfl, ⟨nd, rfl⟩⟩; refine ⟨_, rfl, ?_⟩) | ((with_reducible refine gate_callee (f := 25) rfl ?_); refine goesL_ (some 15) rfl rfl Try.func25 (by kernel_rfl) rfl #[.float .f64 a0, .int .i64 (-1)] rfl (by (try simp only [List.map_toArray, List.map_cons, List.map_nil]); first | done | rfl | (simp only [List.length_drop, List.length_take]; rfl)) ?_; (with_reducible refine (math_IsInf.calls a0 (-1) false _ A6.out).mono ?_); rintro e w' ⟨rfl, ⟨nd, rfl⟩⟩; refine ⟨_, rfl, ?_⟩) | ((with_reducible refine gate_callee (f := 26) rfl ?_); refine goesL_ (some 17) rfl rfl Try.func26 (by kernel_rfl) rfl #[.float .f64 a0] rfl (by (try simp only [List.map_toArray, List.map_cons, List.map_nil]); first | done | rfl | (simp only [List.length_drop, List.length_take]; rfl)) ?_; (with_reducible refine (math_Signbit.calls a0 t148 _ A8.out).mono ?_); rintro e w' ⟨rfl, ⟨nd, rfl⟩⟩; refine ⟨_, rfl, ?_⟩))
        (try simp only [Act.put, List.setIfInBounds_toArray, List.set_cons_zero, List.set_cons_succ])
        go_cut [3] (fun v3 wc => ∃ (kq : Nat) (x3_8 : ByteArray), v3 = .string x3_8 ∧ Aside0 (ratio_Text.j0 kq a0 x3_8 = some r) ∧ Aside0 (kq ≤ k) ∧ Aside0 (Below w.heap.size w wc))
        case first =>
          have H := HC9.out
          clear HC9
          by_cases c10 : t148 = true
          · subst c10
            have H1 : (ratio_Text.j0 k a0 (⟨#[45]⟩ : ByteArray)) = some r := by rw [if_pos rfl] at H; exact H
            clear H
            have H := H1
            clear H1
            have H' := Aside0.mk H
            clear H
            go_wp2
            go_meet
            case rel => exact ⟨_, ((⟨#[45]⟩ : ByteArray)), (by first | rfl | (simp; done) | (simp [*]; done)), H', ⟨by first | omega | exact Nat.le_refl _⟩, ⟨by repeat (first | (with_reducible first | exact HB.out | apply below_alloc | apply pw_below_drewN | apply below_drew1) | exact HB.out)⟩⟩
          · replace c10 := Bool.eq_false_iff.mpr c10
            subst c10
            have H1 : (ratio_Text.j0 k a0 (⟨#[]⟩ : ByteArray)) = some r := by rw [if_neg (show ¬ (false = true) by decide)] at H; exact H
            clear H
            have H := H1
            clear H1
            have H' := Aside0.mk H
            clear H
            go_wp2
            go_meet
            case rel => exact ⟨_, ((⟨#[]⟩ : ByteArray)), (by first | rfl | (simp; done) | (simp [*]; done)), H', ⟨by first | omega | exact Nat.le_refl _⟩, ⟨by repeat (first | (with_reducible first | exact HB.out | apply below_alloc | apply pw_below_drewN | apply below_drew1) | exact HB.out)⟩⟩
        case rest =>
          clear HC9
          try clear c1
          try clear c2
          try clear p2
          try clear c3
          try clear c5
          try clear c7
          try clear c10
          obtain ⟨kq, x3_8, rfl, HA, HJ8, HB⟩ := hcut
          cases kq with
          | zero => exact absurd HA.out (by simp [ratio_Text.j0])
          | succ kj8 =>
            have H := HA.out
            clear HA
            simp only [ratio_Text.j0] at H
            replace H := Option.bind_eq_some_iff.mp H
            obtain ⟨t149, A110, H⟩ := H
            replace H : (if (fge t149 4845873199050653696) = true then (if x3_8.size + 3 ≤ 9223372036854775807 then (some (x3_8 ++ (⟨#[98, 105, 103]⟩ : ByteArray))) else (none)) else (if (f2iOk t149) = true then (if (fsubOk t149 (fofi (f2i t149))) = true then (if (fmulOk (fsub t149 (fofi (f2i t149))) 4652007308841189376) = true then (if (f2iOk (fmul (fsub t149 (fofi (f2i t149))) 4652007308841189376)) = true then ((num_Digits.f kj8 (f2i t149)).bind fun t150 => (if x3_8.size + t150.size ≤ 9223372036854775807 then (if x3_8.size + t150.size + 1 ≤ 9223372036854775807 then ((ratio_fill.f kj8 (mn (f2i (fmul (fsub t149 (fofi (f2i t149))) 4652007308841189376)) 999) 3).bind fun t151 => (if x3_8.size + t150.size + 1 + t151.size ≤ 9223372036854775807 then (some (((x3_8 ++ t150) ++ (⟨#[46]⟩ : ByteArray)) ++ t151)) else (none))) else (none)) else (none))) else (none)) else (none)) else (none)) else (none))) = some r := H
            have A11 := Aside0.mk A110
            clear A110
            by_cases c12 : (fge t149 4845873199050653696) = true
            · rw [if_pos c12] at H
              have c12b0 : (fge t149 4845873199050653696) = true := c12
              clear c12
              by_cases c13 : x3_8.size + 3 ≤ 9223372036854775807
              · rw [if_pos c13] at H
                have c13b0 := eq_true c13
                have c13b1 : decide (x3_8.size + 3 ≤ 9223372036854775807) = true := decide_eq_true c13
                try have c13b2 : (9223372036854775807 < x3_8.size + 3) = False := eq_false (Nat.not_lt.2 c13)
                obtain rfl := Option.some.inj H
                go_wp2_with (first | ((with_reducible refine gate_callee (f := 43) rfl ?_); refine goesL_ (some 19) rfl rfl Try.func43 (by kernel_rfl) rfl #[.float .f64 a0] rfl (by (try simp only [List.map_toArray, List.map_cons, List.map_nil]); first | done | rfl | (simp only [List.length_drop, List.length_take]; rfl)) ?_; (with_reducible refine (math_Abs.calls a0 t149 _ A11.out).mono ?_); rintro e w' ⟨rfl, ⟨nd, rfl⟩⟩; refine ⟨_, rfl, ?_⟩))
                go_ret
                exact ⟨by first | rfl | (simp [errW_none, errW_some] <;> rfl) | (simp [*, errW_none, errW_some] <;> rfl), by repeat (first | (with_reducible first | exact HB.out | apply below_alloc | apply pw_below_drewN | apply below_drew1) | exact HB.out)⟩
              · rw [if_neg c13] at H
                exact absurd H (by simp)
            · rw [if_neg c12] at H
              have c12b0 : (fge t149 4845873199050653696) = false := by simpa using c12
              clear c12
              by_cases c14 : (f2iOk t149) = true
              · rw [if_pos c14] at H
                have c14b0 := eq_true c14
                have c14b1 : decide ((f2iOk t149) = true) = true := decide_eq_true c14
                clear c14
                by_cases c15 : (fsubOk t149 (fofi (f2i t149))) = true
                · rw [if_pos c15] at H
                  have c15b0 := eq_true c15
                  have c15b1 : decide ((fsubOk t149 (fofi (f2i t149))) = true) = true := decide_eq_true c15
                  clear c15
                  by_cases c16 : (fmulOk (fsub t149 (fofi (f2i t149))) 4652007308841189376) = true
                  · rw [if_pos c16] at H
                    have c16b0 := eq_true c16
                    have c16b1 : decide ((fmulOk (fsub t149 (fofi (f2i t149))) 4652007308841189376) = true) = true := decide_eq_true c16
                    clear c16
                    by_cases c17 : (f2iOk (fmul (fsub t149 (fofi (f2i t149))) 4652007308841189376)) = true
                    · rw [if_pos c17] at H
                      have c17b0 := eq_true c17
                      have c17b1 : decide ((f2iOk (fmul (fsub t149 (fofi (f2i t149))) 4652007308841189376)) = true) = true := decide_eq_true c17
                      clear c17
                      obtain ⟨ji18, hji18⟩ : ∃ j_ : Int, (mn (f2i (fmul (fsub t149 (fofi (f2i t149))) 4652007308841189376)) 999) = j_ := ⟨_, rfl⟩
                      replace H : ((num_Digits.f kj8 (f2i t149)).bind fun t150 => (if x3_8.size + t150.size ≤ 9223372036854775807 then (if x3_8.size + t150.size + 1 ≤ 9223372036854775807 then ((ratio_fill.f kj8 (ji18) 3).bind fun t151 => (if x3_8.size + t150.size + 1 + t151.size ≤ 9223372036854775807 then (some (((x3_8 ++ t150) ++ (⟨#[46]⟩ : ByteArray)) ++ t151)) else (none))) else (none)) else (none))) = some r := by first | (rw [hji18] at H; exact H) | (simp only [hji18] at H ⊢; exact H)
                      (try rw [hji18] at A11)
                      (try (have hji18h : ji18 ≤ 999 := by (rw [← hji18]; unfold mn; (repeat' split) <;> omega)))
                      (try (have hji18g : ji18 ≤ 64 := by omega))
                      have hji18_ : (if 999 < (f2i (fmul (fsub t149 (fofi (f2i t149))) 4652007308841189376)) then 999 else (f2i (fmul (fsub t149 (fofi (f2i t149))) 4652007308841189376))) = ji18 := hji18
                      replace H := Option.bind_eq_some_iff.mp H
                      obtain ⟨t150, A190, H⟩ := H
                      replace H : (if x3_8.size + t150.size ≤ 9223372036854775807 then (if x3_8.size + t150.size + 1 ≤ 9223372036854775807 then ((ratio_fill.f kj8 (ji18) 3).bind fun t151 => (if x3_8.size + t150.size + 1 + t151.size ≤ 9223372036854775807 then (some (((x3_8 ++ t150) ++ (⟨#[46]⟩ : ByteArray)) ++ t151)) else (none))) else (none)) else (none)) = some r := H
                      have A19 := Aside0.mk A190
                      clear A190
                      by_cases c20 : x3_8.size + t150.size ≤ 9223372036854775807
                      · rw [if_pos c20] at H
                        have c20b0 := eq_true c20
                        have c20b1 : decide (x3_8.size + t150.size ≤ 9223372036854775807) = true := decide_eq_true c20
                        try have c20b2 : (9223372036854775807 < x3_8.size + t150.size) = False := eq_false (Nat.not_lt.2 c20)
                        by_cases c21 : x3_8.size + t150.size + 1 ≤ 9223372036854775807
                        · rw [if_pos c21] at H
                          have c21b0 := eq_true c21
                          have c21b1 : decide (x3_8.size + t150.size + 1 ≤ 9223372036854775807) = true := decide_eq_true c21
                          try have c21b2 : (9223372036854775807 < x3_8.size + t150.size + 1) = False := eq_false (Nat.not_lt.2 c21)
                          replace H := Option.bind_eq_some_iff.mp H
                          obtain ⟨t151, A220, H⟩ := H
                          replace H : (if x3_8.size + t150.size + 1 + t151.size ≤ 9223372036854775807 then (some (((x3_8 ++ t150) ++ (⟨#[46]⟩ : ByteArray)) ++ t151)) else (none)) = some r := H
                          have A22 := Aside0.mk A220
                          clear A220
                          by_cases c23 : x3_8.size + t150.size + 1 + t151.size ≤ 9223372036854775807
                          · rw [if_pos c23] at H
                            have c23b0 := eq_true c23
                            have c23b1 : decide (x3_8.size + t150.size + 1 + t151.size ≤ 9223372036854775807) = true := decide_eq_true c23
                            try have c23b2 : (9223372036854775807 < x3_8.size + t150.size + 1 + t151.size) = False := eq_false (Nat.not_lt.2 c23)
                            obtain rfl := Option.some.inj H
                            go_wp2_with (first | ((with_reducible refine gate_callee (f := 43) rfl ?_); refine goesL_ (some 19) rfl rfl Try.func43 (by kernel_rfl) rfl #[.float .f64 a0] rfl (by (try simp only [List.map_toArray, List.map_cons, List.map_nil]); first | done | rfl | (simp only [List.length_drop, List.length_take]; rfl)) ?_; (with_reducible refine (math_Abs.calls a0 t149 _ A11.out).mono ?_); rintro e w' ⟨rfl, ⟨nd, rfl⟩⟩; refine ⟨_, rfl, ?_⟩) | ((with_reducible refine gate_callee (f := 59) rfl ?_); refine goesL_ (some 35) rfl rfl Try.func59 (by kernel_rfl) rfl #[.int .i64 (f2i t149)] rfl (by (try simp only [List.map_toArray, List.map_cons, List.map_nil]); first | done | rfl | (simp only [List.length_drop, List.length_take]; rfl)) ?_; (with_reducible refine (num_Digits.calls kj8 (f2i t149) t150 _ A19.out).mono ?_); rintro e w24 ⟨rfl, hb⟩; refine ⟨_, rfl, ?_⟩; have n0_ := Aside0.mk (below_step (by repeat (first | (with_reducible first | exact HB.out | apply below_alloc | apply pw_below_drewN | apply below_drew1) | exact HB.out)) hb); clear HB; have HB := n0_; clear n0_; (try clear hb); (try clear hb2); (try clear hk); (try clear hi)) | ((with_reducible refine gate_callee (f := 60) rfl ?_); refine goesL_ (some 39) rfl rfl Try.func60 (by kernel_rfl) rfl #[.int .i64 ji18, .int .i64 3] rfl (by (try simp only [List.map_toArray, List.map_cons, List.map_nil]); first | done | (simp only [hji18]; rfl) | rfl | (simp only [List.length_drop, List.length_take]; rfl)) ?_; (with_reducible refine (ratio_fill.calls kj8 ji18 3 t151 _ A22.out).mono ?_); rintro e w25 ⟨rfl, hb⟩; refine ⟨_, rfl, ?_⟩; have n0_ := Aside0.mk (below_step (by repeat (first | (with_reducible first | exact HB.out | apply below_alloc | apply pw_below_drewN | apply below_drew1) | exact HB.out)) hb); clear HB; have HB := n0_; clear n0_; (try clear hb); (try clear hb2); (try clear hk); (try clear hi)))
                            go_ret
                            exact ⟨by first | rfl | (simp [errW_none, errW_some] <;> rfl) | (simp only [← hji18]; first | rfl | (simp [errW_none, errW_some] <;> rfl)) | (simp [*, errW_none, errW_some] <;> rfl), by repeat (first | (with_reducible first | exact HB.out | apply below_alloc | apply pw_below_drewN | apply below_drew1) | exact HB.out)⟩
                          · rw [if_neg c23] at H
                            exact absurd H (by simp)
                        · rw [if_neg c21] at H
                          exact absurd H (by simp)
                      · rw [if_neg c20] at H
                        exact absurd H (by simp)
                    · rw [if_neg c17] at H
                      exact absurd H (by simp)
                  · rw [if_neg c16] at H
                    exact absurd H (by simp)
                · rw [if_neg c15] at H
                  exact absurd H (by simp)
              · rw [if_neg c14] at H
                exact absurd H (by simp)

end Go.Proofs.Ytoopmkinpandfaa.PRatioBack
