/- What the law TrieFits uses, thinned: printed by shake2.py. -/
import Derived.Test.YtipbigdpannlcaaTTrieFitsPTrieFitsx0
import Derived.Test.YtipbigdpannlcaaTTrieFitsPTrieFitsx1
namespace Go.Proofs.Ytipbigdpannlcaa.PTrieFits
open Go.RowKit Go.Proofs.YtipbigdpannlcaaW.PrintWords Go.Proofs.YtipbigdpannlcaaW.PrintLast Go.Proofs.YtipbigdpannlcaaW.PrintMore
attribute [local go_sem] max2_int min2_int max_two min_two max_three min_three max_four min_four
set_option linter.unusedVariables false
set_option linter.unusedSimpArgs false
def ratio_Text.j0 : Nat → Nat → ByteArray → Option (ByteArray)
  | 0, _, _ => none
  | k + 1, x0, x3 => (math_Abs.f x0).bind fun t135 => (if (fge t135 4845873199050653696) = true then (if x3.size + 3 ≤ 9223372036854775807 then (some (x3 ++ (⟨#[98, 105, 103]⟩ : ByteArray))) else (none)) else (if (f2iOk t135) = true then (if (fsubOk t135 (fofi (f2i t135))) = true then (if (fmulOk (fsub t135 (fofi (f2i t135))) 4652007308841189376) = true then (if (f2iOk (fmul (fsub t135 (fofi (f2i t135))) 4652007308841189376)) = true then ((num_Digits.f k (f2i t135)).bind fun t136 => (if x3.size + t136.size ≤ 9223372036854775807 then (if x3.size + t136.size + 1 ≤ 9223372036854775807 then ((ratio_fill.f k (mn (f2i (fmul (fsub t135 (fofi (f2i t135))) 4652007308841189376)) 999) 3).bind fun t137 => (if x3.size + t136.size + 1 + t137.size ≤ 9223372036854775807 then (some (((x3 ++ t136) ++ (⟨#[46]⟩ : ByteArray)) ++ t137)) else (none))) else (none)) else (none))) else (none)) else (none)) else (none)) else (none)))
def ratio_Text.f (k : Nat) (a0 : Nat) : Option (ByteArray) := (math_IsNaN.f a0).bind fun t131 => (if t131 = true then (some (⟨#[110, 97, 110]⟩ : ByteArray)) else ((math_IsInf.f a0 1).bind fun t132 => (if t132 = true then (some (⟨#[105, 110, 102]⟩ : ByteArray)) else ((math_IsInf.f a0 (-1)).bind fun t133 => (if t133 = true then (some (⟨#[45, 105, 110, 102]⟩ : ByteArray)) else ((math_Signbit.f a0).bind fun t134 => (if t134 = true then (ratio_Text.j0 k a0 (⟨#[45]⟩ : ByteArray)) else (ratio_Text.j0 k a0 (⟨#[]⟩ : ByteArray)))))))))
set_option maxHeartbeats 8000000 in
set_option maxRecDepth 100000 in
theorem ratio_Text.calls (k : Nat) (a0 : Nat) (r : ByteArray) (w : World) (h : ratio_Text.f k a0 = some r) :
    Calls Try.prog 81 #[.float .f64 a0] w fun e w' => e = .returned (.string r) ∧ Below w.heap.size w w' := by
  have HB := Aside0.mk (Below.refl w.heap.size w)
  have H : ((math_IsNaN.f a0).bind fun t131 => (if t131 = true then (some (⟨#[110, 97, 110]⟩ : ByteArray)) else ((math_IsInf.f a0 1).bind fun t132 => (if t132 = true then (some (⟨#[105, 110, 102]⟩ : ByteArray)) else ((math_IsInf.f a0 (-1)).bind fun t133 => (if t133 = true then (some (⟨#[45, 105, 110, 102]⟩ : ByteArray)) else ((math_Signbit.f a0).bind fun t134 => (if t134 = true then (ratio_Text.j0 k a0 (⟨#[45]⟩ : ByteArray)) else (ratio_Text.j0 k a0 (⟨#[]⟩ : ByteArray)))))))))) = some r := h
  clear h
  replace H := Option.bind_eq_some_iff.mp H
  obtain ⟨t131, A20, H⟩ := H
  replace H : (if t131 = true then (some (⟨#[110, 97, 110]⟩ : ByteArray)) else ((math_IsInf.f a0 1).bind fun t132 => (if t132 = true then (some (⟨#[105, 110, 102]⟩ : ByteArray)) else ((math_IsInf.f a0 (-1)).bind fun t133 => (if t133 = true then (some (⟨#[45, 105, 110, 102]⟩ : ByteArray)) else ((math_Signbit.f a0).bind fun t134 => (if t134 = true then (ratio_Text.j0 k a0 (⟨#[45]⟩ : ByteArray)) else (ratio_Text.j0 k a0 (⟨#[]⟩ : ByteArray))))))))) = some r := H
  have A2 := Aside0.mk A20
  clear A20
  by_cases c3 : t131 = true
  · subst c3
    have H1 : (some (⟨#[110, 97, 110]⟩ : ByteArray)) = some r := by rw [if_pos rfl] at H; exact H
    clear H
    have H := H1
    clear H1
    obtain rfl := Option.some.inj H
    go_enter Try.func81, Try.ntmps81
    go_wp2_with (first | ((with_reducible refine gate_callee (f := 68) rfl ?_); refine goesL_ (some 9) rfl rfl Try.func68 (by kernel_rfl) rfl #[.float .f64 a0] rfl (by (try simp only [List.map_toArray, List.map_cons, List.map_nil]); first | done | rfl | (simp only [List.length_drop, List.length_take]; rfl)) ?_; (with_reducible refine (math_IsNaN.calls a0 true _ A2.out).mono ?_); rintro e w' ⟨rfl, ⟨nd, rfl⟩⟩; refine ⟨_, rfl, ?_⟩))
    go_ret
    exact ⟨by first | rfl | (simp [errW_none, errW_some] <;> rfl) | (simp [*, errW_none, errW_some] <;> rfl), by repeat (first | (with_reducible first | exact HB.out | apply below_alloc | apply pw_below_drewN | apply below_drew1) | exact HB.out)⟩
  · replace c3 := Bool.eq_false_iff.mpr c3
    subst c3
    have H1 : ((math_IsInf.f a0 1).bind fun t132 => (if t132 = true then (some (⟨#[105, 110, 102]⟩ : ByteArray)) else ((math_IsInf.f a0 (-1)).bind fun t133 => (if t133 = true then (some (⟨#[45, 105, 110, 102]⟩ : ByteArray)) else ((math_Signbit.f a0).bind fun t134 => (if t134 = true then (ratio_Text.j0 k a0 (⟨#[45]⟩ : ByteArray)) else (ratio_Text.j0 k a0 (⟨#[]⟩ : ByteArray)))))))) = some r := by rw [if_neg (show ¬ (false = true) by decide)] at H; exact H
    clear H
    have H := H1
    clear H1
    replace H := Option.bind_eq_some_iff.mp H
    obtain ⟨t132, A40, H⟩ := H
    replace H : (if t132 = true then (some (⟨#[105, 110, 102]⟩ : ByteArray)) else ((math_IsInf.f a0 (-1)).bind fun t133 => (if t133 = true then (some (⟨#[45, 105, 110, 102]⟩ : ByteArray)) else ((math_Signbit.f a0).bind fun t134 => (if t134 = true then (ratio_Text.j0 k a0 (⟨#[45]⟩ : ByteArray)) else (ratio_Text.j0 k a0 (⟨#[]⟩ : ByteArray))))))) = some r := H
    have A4 := Aside0.mk A40
    clear A40
    by_cases c5 : t132 = true
    · subst c5
      have H1 : (some (⟨#[105, 110, 102]⟩ : ByteArray)) = some r := by rw [if_pos rfl] at H; exact H
      clear H
      have H := H1
      clear H1
      obtain rfl := Option.some.inj H
      go_enter Try.func81, Try.ntmps81
      go_wp2_with (first | ((with_reducible refine gate_callee (f := 68) rfl ?_); refine goesL_ (some 9) rfl rfl Try.func68 (by kernel_rfl) rfl #[.float .f64 a0] rfl (by (try simp only [List.map_toArray, List.map_cons, List.map_nil]); first | done | rfl | (simp only [List.length_drop, List.length_take]; rfl)) ?_; (with_reducible refine (math_IsNaN.calls a0 false _ A2.out).mono ?_); rintro e w' ⟨rfl, ⟨nd, rfl⟩⟩; refine ⟨_, rfl, ?_⟩) | ((with_reducible refine gate_callee (f := 70) rfl ?_); refine goesL_ (some 12) rfl rfl Try.func70 (by kernel_rfl) rfl #[.float .f64 a0, .int .i64 1] rfl (by (try simp only [List.map_toArray, List.map_cons, List.map_nil]); first | done | rfl | (simp only [List.length_drop, List.length_take]; rfl)) ?_; (with_reducible refine (math_IsInf.calls a0 1 true _ A4.out).mono ?_); rintro e w' ⟨rfl, ⟨nd, rfl⟩⟩; refine ⟨_, rfl, ?_⟩))
      go_ret
      exact ⟨by first | rfl | (simp [errW_none, errW_some] <;> rfl) | (simp [*, errW_none, errW_some] <;> rfl), by repeat (first | (with_reducible first | exact HB.out | apply below_alloc | apply pw_below_drewN | apply below_drew1) | exact HB.out)⟩
    · replace c5 := Bool.eq_false_iff.mpr c5
      subst c5
      have H1 : ((math_IsInf.f a0 (-1)).bind fun t133 => (if t133 = true then (some (⟨#[45, 105, 110, 102]⟩ : ByteArray)) else ((math_Signbit.f a0).bind fun t134 => (if t134 = true then (ratio_Text.j0 k a0 (⟨#[45]⟩ : ByteArray)) else (ratio_Text.j0 k a0 (⟨#[]⟩ : ByteArray)))))) = some r := by rw [if_neg (show ¬ (false = true) by decide)] at H; exact H
      clear H
      have H := H1
      clear H1
      replace H := Option.bind_eq_some_iff.mp H
      obtain ⟨t133, A60, H⟩ := H
      replace H : (if t133 = true then (some (⟨#[45, 105, 110, 102]⟩ : ByteArray)) else ((math_Signbit.f a0).bind fun t134 => (if t134 = true then (ratio_Text.j0 k a0 (⟨#[45]⟩ : ByteArray)) else (ratio_Text.j0 k a0 (⟨#[]⟩ : ByteArray))))) = some r := H
      have A6 := Aside0.mk A60
      clear A60
      by_cases c7 : t133 = true
      · subst c7
        have H1 : (some (⟨#[45, 105, 110, 102]⟩ : ByteArray)) = some r := by rw [if_pos rfl] at H; exact H
        clear H
        have H := H1
        clear H1
        obtain rfl := Option.some.inj H
        go_enter Try.func81, Try.ntmps81
        go_wp2_with (first | ((with_reducible refine gate_callee (f := 68) rfl ?_); refine goesL_ (some 9) rfl rfl Try.func68 (by kernel_rfl) rfl #[.float .f64 a0] rfl (by (try simp only [List.map_toArray, List.map_cons, List.map_nil]); first | done | rfl | (simp only [List.length_drop, List.length_take]; rfl)) ?_; (with_reducible refine (math_IsNaN.calls a0 false _ A2.out).mono ?_); rintro e w' ⟨rfl, ⟨nd, rfl⟩⟩; refine ⟨_, rfl, ?_⟩) | ((with_reducible refine gate_callee (f := 70) rfl ?_); refine goesL_ (some 12) rfl rfl Try.func70 (by kernel_rfl) rfl #[.float .f64 a0, .int .i64 1] rfl (by (try simp only [List.map_toArray, List.map_cons, List.map_nil]); first | done | rfl | (simp only [List.length_drop, List.length_take]; rfl)) ?_; (with_reducible refine (math_IsInf.calls a0 1 false _ A4.out).mono ?_); rintro e w' ⟨rfl, ⟨nd, rfl⟩⟩; refine ⟨_, rfl, ?_⟩) | ((with_reducible refine gate_callee (f := 70) rfl ?_); refine goesL_ (some 15) rfl rfl Try.func70 (by kernel_rfl) rfl #[.float .f64 a0, .int .i64 (-1)] rfl (by (try simp only [List.map_toArray, List.map_cons, List.map_nil]); first | done | rfl | (simp only [List.length_drop, List.length_take]; rfl)) ?_; (with_reducible refine (math_IsInf.calls a0 (-1) true _ A6.out).mono ?_); rintro e w' ⟨rfl, ⟨nd, rfl⟩⟩; refine ⟨_, rfl, ?_⟩))
        go_ret
        exact ⟨by first | rfl | (simp [errW_none, errW_some] <;> rfl) | (simp [*, errW_none, errW_some] <;> rfl), by repeat (first | (with_reducible first | exact HB.out | apply below_alloc | apply pw_below_drewN | apply below_drew1) | exact HB.out)⟩
      · replace c7 := Bool.eq_false_iff.mpr c7
        subst c7
        have H1 : ((math_Signbit.f a0).bind fun t134 => (if t134 = true then (ratio_Text.j0 k a0 (⟨#[45]⟩ : ByteArray)) else (ratio_Text.j0 k a0 (⟨#[]⟩ : ByteArray)))) = some r := by rw [if_neg (show ¬ (false = true) by decide)] at H; exact H
        clear H
        have H := H1
        clear H1
        replace H := Option.bind_eq_some_iff.mp H
        obtain ⟨t134, A80, H⟩ := H
        replace H : (if t134 = true then (ratio_Text.j0 k a0 (⟨#[45]⟩ : ByteArray)) else (ratio_Text.j0 k a0 (⟨#[]⟩ : ByteArray))) = some r := H
        have A8 := Aside0.mk A80
        clear A80
        have HC9 := Aside0.mk H
        clear H
        go_enter Try.func81, Try.ntmps81
        go_upto_if 17 with (first | ((with_reducible refine gate_callee (f := 68) rfl ?_); refine goesL_ (some 9) rfl rfl Try.func68 (by kernel_rfl) rfl #[.float .f64 a0] rfl (by (try simp only [List.map_toArray, List.map_cons, List.map_nil]); first | done | rfl | (simp only [List.length_drop, List.length_take]; rfl)) ?_; (with_reducible refine (math_IsNaN.calls a0 false _ A2.out).mono ?_); rintro e w' ⟨rfl, ⟨nd, rfl⟩⟩; refine ⟨_, rfl, ?_⟩) | ((with_reducible refine gate_callee (f := 70) rfl ?_); refine goesL_ (some 12) rfl rfl Try.func70 (by kernel_rfl) rfl #[.float .f64 a0, .int .i64 1] rfl (by (try simp only [List.map_toArray, List.map_cons, List.map_nil]); first | done | rfl | (simp only [List.length_drop, List.length_take]; rfl)) ?_; (with_reducible refine (math_IsInf.calls a0 1 false _ A4.out).mono ?_); rintro e w' ⟨rfl, ⟨nd, rfl⟩⟩; refine ⟨_, rfl, ?_⟩) | ((with_reducible refine gate_callee (f := 70) rfl ?_); refine goesL_ (some 15) rfl rfl Try.func70 (by kernel_rfl) rfl #[.float .f64 a0, .int .i64 (-1)] rfl (by (try simp only [List.map_toArray, List.map_cons, List.map_nil]); first | done | rfl | (simp only [List.length_drop, List.length_take]; rfl)) ?_; (with_reducible refine (math_IsInf.calls a0 (-1) false _ A6.out).mono ?_); rintro e w' ⟨rfl, ⟨nd, rfl⟩⟩; refine ⟨_, rfl, ?_⟩) | ((with_reducible refine gate_callee (f := 69) rfl ?_); refine goesL_ (some 17) rfl rfl Try.func69 (by kernel_rfl) rfl #[.float .f64 a0] rfl (by (try simp only [List.map_toArray, List.map_cons, List.map_nil]); first | done | rfl | (simp only [List.length_drop, List.length_take]; rfl)) ?_; (with_reducible refine (math_Signbit.calls a0 t134 _ A8.out).mono ?_); rintro e w' ⟨rfl, ⟨nd, rfl⟩⟩; refine ⟨_, rfl, ?_⟩))
        (try simp only [Act.put, List.setIfInBounds_toArray, List.set_cons_zero, List.set_cons_succ])
        go_cut [3] (fun v3 wc => ∃ (kq : Nat) (x3_8 : ByteArray), v3 = .string x3_8 ∧ Aside0 (ratio_Text.j0 kq a0 x3_8 = some r) ∧ Aside0 (kq ≤ k) ∧ Aside0 (Below w.heap.size w wc))
        case first =>
          have H := HC9.out
          clear HC9
          by_cases c10 : t134 = true
          · subst c10
            have H1 : (ratio_Text.j0 k a0 (⟨#[45]⟩ : ByteArray)) = some r := by rw [if_pos rfl] at H; exact H
            clear H
            have H := H1
            clear H1
            have H' := Aside0.mk H
            clear H
            go_wp2
            go_meet
            case rel => exact ⟨_, ((⟨#[45]⟩ : ByteArray)), (by first | rfl | (simp; done) | (simp [*]; done)), H', ⟨by first | omega | exact Nat.le_refl _⟩, ⟨by repeat (first | (with_reducible first | exact HB.out | apply below_alloc | apply pw_below_drewN | apply below_drew1) | exact HB.out)⟩⟩
          · replace c10 := Bool.eq_false_iff.mpr c10
            subst c10
            have H1 : (ratio_Text.j0 k a0 (⟨#[]⟩ : ByteArray)) = some r := by rw [if_neg (show ¬ (false = true) by decide)] at H; exact H
            clear H
            have H := H1
            clear H1
            have H' := Aside0.mk H
            clear H
            go_wp2
            go_meet
            case rel => exact ⟨_, ((⟨#[]⟩ : ByteArray)), (by first | rfl | (simp; done) | (simp [*]; done)), H', ⟨by first | omega | exact Nat.le_refl _⟩, ⟨by repeat (first | (with_reducible first | exact HB.out | apply below_alloc | apply pw_below_drewN | apply below_drew1) | exact HB.out)⟩⟩
        case rest =>
          clear HC9
          try clear c1
          try clear p2
          try clear c3
          try clear c5
          try clear c6
          try clear c7
          try clear c8
          try clear c10
          obtain ⟨kq, x3_8, rfl, HA, HJ8, HB⟩ := hcut
          cases kq with
          | zero => exact absurd HA.out (by simp [ratio_Text.j0])
          | succ kj8 =>
            have H := HA.out
            clear HA
            simp only [ratio_Text.j0] at H
            replace H := Option.bind_eq_some_iff.mp H
            obtain ⟨t135, A110, H⟩ := H
            replace H : (if (fge t135 4845873199050653696) = true then (if x3_8.size + 3 ≤ 9223372036854775807 then (some (x3_8 ++ (⟨#[98, 105, 103]⟩ : ByteArray))) else (none)) else (if (f2iOk t135) = true then (if (fsubOk t135 (fofi (f2i t135))) = true then (if (fmulOk (fsub t135 (fofi (f2i t135))) 4652007308841189376) = true then (if (f2iOk (fmul (fsub t135 (fofi (f2i t135))) 4652007308841189376)) = true then ((num_Digits.f kj8 (f2i t135)).bind fun t136 => (if x3_8.size + t136.size ≤ 9223372036854775807 then (if x3_8.size + t136.size + 1 ≤ 9223372036854775807 then ((ratio_fill.f kj8 (mn (f2i (fmul (fsub t135 (fofi (f2i t135))) 4652007308841189376)) 999) 3).bind fun t137 => (if x3_8.size + t136.size + 1 + t137.size ≤ 9223372036854775807 then (some (((x3_8 ++ t136) ++ (⟨#[46]⟩ : ByteArray)) ++ t137)) else (none))) else (none)) else (none))) else (none)) else (none)) else (none)) else (none))) = some r := H
            have A11 := Aside0.mk A110
            clear A110
            by_cases c12 : (fge t135 4845873199050653696) = true
            · rw [if_pos c12] at H
              have c12b0 : (fge t135 4845873199050653696) = true := c12
              clear c12
              by_cases c13 : x3_8.size + 3 ≤ 9223372036854775807
              · rw [if_pos c13] at H
                have c13b0 := eq_true c13
                have c13b1 : decide (x3_8.size + 3 ≤ 9223372036854775807) = true := decide_eq_true c13
                try have c13b2 : (9223372036854775807 < x3_8.size + 3) = False := eq_false (Nat.not_lt.2 c13)
                obtain rfl := Option.some.inj H
                go_wp2_with (first | ((with_reducible refine gate_callee (f := 71) rfl ?_); refine goesL_ (some 19) rfl rfl Try.func71 (by kernel_rfl) rfl #[.float .f64 a0] rfl (by (try simp only [List.map_toArray, List.map_cons, List.map_nil]); first | done | rfl | (simp only [List.length_drop, List.length_take]; rfl)) ?_; (with_reducible refine (math_Abs.calls a0 t135 _ A11.out).mono ?_); rintro e w' ⟨rfl, ⟨nd, rfl⟩⟩; refine ⟨_, rfl, ?_⟩))
                go_ret
                exact ⟨by first | rfl | (simp [errW_none, errW_some] <;> rfl) | (simp [*, errW_none, errW_some] <;> rfl), by repeat (first | (with_reducible first | exact HB.out | apply below_alloc | apply pw_below_drewN | apply below_drew1) | exact HB.out)⟩
              · rw [if_neg c13] at H
                exact absurd H (by simp)
            · rw [if_neg c12] at H
              have c12b0 : (fge t135 4845873199050653696) = false := by simpa using c12
              clear c12
              by_cases c14 : (f2iOk t135) = true
              · rw [if_pos c14] at H
                have c14b0 := eq_true c14
                have c14b1 : decide ((f2iOk t135) = true) = true := decide_eq_true c14
                clear c14
                by_cases c15 : (fsubOk t135 (fofi (f2i t135))) = true
                · rw [if_pos c15] at H
                  have c15b0 := eq_true c15
                  have c15b1 : decide ((fsubOk t135 (fofi (f2i t135))) = true) = true := decide_eq_true c15
                  clear c15
                  by_cases c16 : (fmulOk (fsub t135 (fofi (f2i t135))) 4652007308841189376) = true
                  · rw [if_pos c16] at H
                    have c16b0 := eq_true c16
                    have c16b1 : decide ((fmulOk (fsub t135 (fofi (f2i t135))) 4652007308841189376) = true) = true := decide_eq_true c16
                    clear c16
                    by_cases c17 : (f2iOk (fmul (fsub t135 (fofi (f2i t135))) 4652007308841189376)) = true
                    · rw [if_pos c17] at H
                      have c17b0 := eq_true c17
                      have c17b1 : decide ((f2iOk (fmul (fsub t135 (fofi (f2i t135))) 4652007308841189376)) = true) = true := decide_eq_true c17
                      clear c17
                      obtain ⟨ji18, hji18⟩ : ∃ j_ : Int, (mn (f2i (fmul (fsub t135 (fofi (f2i t135))) 4652007308841189376)) 999) = j_ := ⟨_, rfl⟩
                      replace H : ((num_Digits.f kj8 (f2i t135)).bind fun t136 => (if x3_8.size + t136.size ≤ 9223372036854775807 then (if x3_8.size + t136.size + 1 ≤ 9223372036854775807 then ((ratio_fill.f kj8 (ji18) 3).bind fun t137 => (if x3_8.size + t136.size + 1 + t137.size ≤ 9223372036854775807 then (some (((x3_8 ++ t136) ++ (⟨#[46]⟩ : ByteArray)) ++ t137)) else (none))) else (none)) else (none))) = some r := by first | (rw [hji18] at H; exact H) | (simp only [hji18] at H ⊢; exact H)
                      (try rw [hji18] at A11)
                      (try (have hji18h : ji18 ≤ 999 := by (rw [← hji18]; unfold mn; (repeat' split) <;> omega)))
                      (try (have hji18g : ji18 ≤ 64 := by omega))
                      have hji18_ : (if 999 < (f2i (fmul (fsub t135 (fofi (f2i t135))) 4652007308841189376)) then 999 else (f2i (fmul (fsub t135 (fofi (f2i t135))) 4652007308841189376))) = ji18 := hji18
                      replace H := Option.bind_eq_some_iff.mp H
                      obtain ⟨t136, A190, H⟩ := H
                      replace H : (if x3_8.size + t136.size ≤ 9223372036854775807 then (if x3_8.size + t136.size + 1 ≤ 9223372036854775807 then ((ratio_fill.f kj8 (ji18) 3).bind fun t137 => (if x3_8.size + t136.size + 1 + t137.size ≤ 9223372036854775807 then (some (((x3_8 ++ t136) ++ (⟨#[46]⟩ : ByteArray)) ++ t137)) else (none))) else (none)) else (none)) = some r := H
                      have A19 := Aside0.mk A190
                      clear A190
                      by_cases c20 : x3_8.size + t136.size ≤ 9223372036854775807
                      · rw [if_pos c20] at H
                        have c20b0 := eq_true c20
                        have c20b1 : decide (x3_8.size + t136.size ≤ 9223372036854775807) = true := decide_eq_true c20
                        try have c20b2 : (9223372036854775807 < x3_8.size + t136.size) = False := eq_false (Nat.not_lt.2 c20)
                        by_cases c21 : x3_8.size + t136.size + 1 ≤ 9223372036854775807
                        · rw [if_pos c21] at H
                          have c21b0 := eq_true c21
                          have c21b1 : decide (x3_8.size + t136.size + 1 ≤ 9223372036854775807) = true := decide_eq_true c21
                          try have c21b2 : (9223372036854775807 < x3_8.size + t136.size + 1) = False := eq_false (Nat.not_lt.2 c21)
                          replace H := Option.bind_eq_some_iff.mp H
                          obtain ⟨t137, A220, H⟩ := H
                          replace H : (if x3_8.size + t136.size + 1 + t137.size ≤ 9223372036854775807 then (some (((x3_8 ++ t136) ++ (⟨#[46]⟩ : ByteArray)) ++ t137)) else (none)) = some r := H
                          have A22 := Aside0.mk A220
                          clear A220
                          by_cases c23 : x3_8.size + t136.size + 1 + t137.size ≤ 9223372036854775807
                          · rw [if_pos c23] at H
                            have c23b0 := eq_true c23
                            have c23b1 : decide (x3_8.size + t136.size + 1 + t137.size ≤ 9223372036854775807) = true := decide_eq_true c23
                            try have c23b2 : (9223372036854775807 < x3_8.size + t136.size + 1 + t137.size) = False := eq_false (Nat.not_lt.2 c23)
                            obtain rfl := Option.some.inj H
                            go_wp2_with (first | ((with_reducible refine gate_callee (f := 71) rfl ?_); refine goesL_ (some 19) rfl rfl Try.func71 (by kernel_rfl) rfl #[.float .f64 a0] rfl (by (try simp only [List.map_toArray, List.map_cons, List.map_nil]); first | done | rfl | (simp only [List.length_drop, List.length_take]; rfl)) ?_; (with_reducible refine (math_Abs.calls a0 t135 _ A11.out).mono ?_); rintro e w' ⟨rfl, ⟨nd, rfl⟩⟩; refine ⟨_, rfl, ?_⟩) | ((with_reducible refine gate_callee (f := 83) rfl ?_); refine goesL_ (some 35) rfl rfl Try.func83 (by kernel_rfl) rfl #[.int .i64 (f2i t135)] rfl (by (try simp only [List.map_toArray, List.map_cons, List.map_nil]); first | done | rfl | (simp only [List.length_drop, List.length_take]; rfl)) ?_; (with_reducible refine (num_Digits.calls kj8 (f2i t135) t136 _ A19.out).mono ?_); rintro e w24 ⟨rfl, hb⟩; refine ⟨_, rfl, ?_⟩; have n0_ := Aside0.mk (below_step (by repeat (first | (with_reducible first | exact HB.out | apply below_alloc | apply pw_below_drewN | apply below_drew1) | exact HB.out)) hb); clear HB; have HB := n0_; clear n0_; (try clear hb); (try clear hb2); (try clear hk); (try clear hi)) | ((with_reducible refine gate_callee (f := 84) rfl ?_); refine goesL_ (some 39) rfl rfl Try.func84 (by kernel_rfl) rfl #[.int .i64 ji18, .int .i64 3] rfl (by (try simp only [List.map_toArray, List.map_cons, List.map_nil]); first | done | (simp only [hji18]; rfl) | rfl | (simp only [List.length_drop, List.length_take]; rfl)) ?_; (with_reducible refine (ratio_fill.calls kj8 ji18 3 t137 _ A22.out).mono ?_); rintro e w25 ⟨rfl, hb⟩; refine ⟨_, rfl, ?_⟩; have n0_ := Aside0.mk (below_step (by repeat (first | (with_reducible first | exact HB.out | apply below_alloc | apply pw_below_drewN | apply below_drew1) | exact HB.out)) hb); clear HB; have HB := n0_; clear n0_; (try clear hb); (try clear hb2); (try clear hk); (try clear hi)))
                            go_ret
                            exact ⟨by first | rfl | (simp [errW_none, errW_some] <;> rfl) | (simp only [← hji18]; first | rfl | (simp [errW_none, errW_some] <;> rfl)) | (simp [*, errW_none, errW_some] <;> rfl), by repeat (first | (with_reducible first | exact HB.out | apply below_alloc | apply pw_below_drewN | apply below_drew1) | exact HB.out)⟩
                          · rw [if_neg c23] at H
                            exact absurd H (by simp)
                        · rw [if_neg c21] at H
                          exact absurd H (by simp)
                      · rw [if_neg c20] at H
                        exact absurd H (by simp)
                    · rw [if_neg c17] at H
                      exact absurd H (by simp)
                  · rw [if_neg c16] at H
                    exact absurd H (by simp)
                · rw [if_neg c15] at H
                  exact absurd H (by simp)
              · rw [if_neg c14] at H
                exact absurd H (by simp)
def ratio_ten.l0 : Nat → Int → Int → Int → Option (Int)
  | 0, _, _, _ => none
  | k + 1, x3, x4, x5 => if x5 < x4 then (ratio_ten.l0 k (wrap64 (x3 * 10)) x4 (wrap64 (x5 + 1))) else (some x3)
def ratio_ten.f (k : Nat) (a0 : Int) : Option (Int) := ratio_ten.l0 k 1 a0 0
set_option maxHeartbeats 8000000 in
set_option maxRecDepth 100000 in
theorem ratio_ten.calls (k : Nat) (a0 : Int) (r : Int) (w : World) (h : ratio_ten.f k a0 = some r) :
    Calls Try.prog 82 #[.int .i64 a0] w fun e w' => e = .returned (.int .i64 r) ∧ Drawn0 w w' := by
  have H : (ratio_ten.l0 k 1 a0 0) = some r := h
  clear h
  have H' := Aside0.mk H
  clear H
  go_enter Try.func82, Try.ntmps82
  go_wp2
  go_loopg [3, 5] k (fun kq v3 v5 w' => ∃ (x3_1 : Int) (x5_1 : Int), v3 = .int .i64 x3_1 ∧ v5 = .int .i64 x5_1 ∧ Aside0 (ratio_ten.l0 kq x3_1 a0 x5_1 = some r) ∧ Aside0 (kq ≤ k) ∧ Drawn0 w w')
  case atStart => exact ⟨(1), (0), (by first | rfl | (simp; done) | (simp [*]; done)), (by first | rfl | (simp; done) | (simp [*]; done)), H', ⟨Nat.le_refl _⟩, by repeat (first | exact Drawn0.refl _ | apply Drawn0.step)⟩
  case round =>
    clear H'
    obtain ⟨x3_1, x5_1, rfl, rfl, HA, HK1, ⟨m1, rfl⟩⟩ := hrel
    cases gk with
    | zero => exact absurd HA.out (by simp [ratio_ten.l0])
    | succ k1 =>
      have H := HA.out
      clear HA
      simp only [ratio_ten.l0] at H
      by_cases c2 : x5_1 < a0
      · rw [if_pos c2] at H
        have c2b0 : decide (x5_1 < a0) = true := decide_eq_true c2
        clear c2
        have H' := Aside0.mk H
        clear H
        go_wp2
        go_roundg k1
        case measure => have := HK1.out; omega
        case rel => exact ⟨(wrap64 (x3_1 * 10)), (wrap64 (x5_1 + 1)), (by first | rfl | (simp; done) | (simp [*]; done)), (by first | rfl | (simp; done) | (simp [*]; done)), H', ⟨by have := HK1.out; omega⟩, by repeat (first | exact Drawn0.refl _ | apply Drawn0.step)⟩
      · rw [if_neg c2] at H
        have c2b0 : decide (x5_1 < a0) = false := decide_eq_false c2
        clear c2
        obtain rfl := Option.some.inj H
        go_wp2
        go_ret
        exact ⟨by first | rfl | (simp; done) | (simp [*]; done), by repeat (first | exact Drawn0.refl _ | apply Drawn0.step)⟩
def math_NaN.f : Option (Nat) := some 9221120237041090561
set_option maxRecDepth 100000 in
theorem math_NaN.calls (r : Nat) (w : World) (h : math_NaN.f = some r) :
    Calls Try.prog 51 #[] w fun e w' => e = .returned (.float .f64 r) ∧ Drawn0 w w' := by
  obtain rfl := Option.some.inj h
  clear h
  go_enter Try.func51, Try.ntmps51
  go_wp2
  go_ret
  exact ⟨by first | rfl | simp, by repeat (first | exact Drawn0.refl _ | apply Drawn0.step)⟩
def math_Inf.f (a0 : Int) : Option (Nat) := if a0 ≥ 0 then some 9218868437227405312 else some 18442240474082181120
set_option maxRecDepth 100000 in
theorem math_Inf.calls (a0 : Int) (r : Nat) (w : World) (h : math_Inf.f a0 = some r) :
    Calls Try.prog 52 #[.int .i64 a0] w fun e w' => e = .returned (.float .f64 r) ∧ Drawn0 w w' := by
  unfold math_Inf.f at h
  by_cases h0 : a0 ≥ 0
  · rw [if_pos h0] at h
    obtain rfl := Option.some.inj h
    have hb : decide (0 ≤ a0) = true := decide_eq_true h0
    clear h h0
    go_enter Try.func52, Try.ntmps52
    go_wp2
    go_ret
    exact ⟨by first | rfl | simp, by repeat (first | exact Drawn0.refl _ | apply Drawn0.step)⟩
  · rw [if_neg h0] at h
    obtain rfl := Option.some.inj h
    have hb : decide (0 ≤ a0) = false := decide_eq_false h0
    clear h h0
    go_enter Try.func52, Try.ntmps52
    go_wp2
    go_ret
    exact ⟨by first | rfl | simp, by repeat (first | exact Drawn0.refl _ | apply Drawn0.step)⟩
def stringslite_HasPrefix.f (a0 : ByteArray) (a1 : ByteArray) : Option (Bool) := if (a0.size : Int) ≥ (a1.size : Int) then (if 0 ≤ (a1.size : Int) then (if (a1.size : Int) ≤ (a0.size : Int) then (some ((a0.extract 0 ((a1.size : Int) : Int).toNat).toList == a1.toList)) else (none)) else (none)) else (some false)
set_option maxHeartbeats 8000000 in
set_option maxRecDepth 100000 in
theorem stringslite_HasPrefix.calls (a0 : ByteArray) (a1 : ByteArray) (r : Bool) (w : World) (h : stringslite_HasPrefix.f a0 a1 = some r) :
    Calls Try.prog 110 #[.string a0, .string a1] w fun e w' => e = .returned (.bool r) ∧ Drawn0 w w' := by
  have H : (if (a0.size : Int) ≥ (a1.size : Int) then (if 0 ≤ (a1.size : Int) then (if (a1.size : Int) ≤ (a0.size : Int) then (some ((a0.extract 0 ((a1.size : Int) : Int).toNat).toList == a1.toList)) else (none)) else (none)) else (some false)) = some r := h
  clear h
  by_cases c3 : (a0.size : Int) ≥ (a1.size : Int)
  · rw [if_pos c3] at H
    have c3b0 : decide ((a1.size : Int) ≤ (a0.size : Int)) = true := decide_eq_true c3
    have c3b1 : decide (a1.size ≤ a0.size) = true := decide_eq_true (Int.ofNat_le.mp c3)
    clear c3
    by_cases c4 : 0 ≤ (a1.size : Int)
    · rw [if_pos c4] at H
      have c4b0 := eq_true c4
      have c4b1 : decide (0 ≤ (a1.size : Int)) = true := decide_eq_true c4
      clear c4
      by_cases c5 : (a1.size : Int) ≤ (a0.size : Int)
      · rw [if_pos c5] at H
        have c5b0 := eq_true c5
        have c5b1 : decide ((a1.size : Int) ≤ (a0.size : Int)) = true := decide_eq_true c5
        clear c5
        obtain rfl := Option.some.inj H
        go_enter Try.func110, Try.ntmps110
        go_wp2
        go_ret
        exact ⟨by first | rfl | (simp; done) | (simp [*]; done), by repeat (first | exact Drawn0.refl _ | apply Drawn0.step)⟩
      · rw [if_neg c5] at H
        exact absurd H (by simp)
    · rw [if_neg c4] at H
      exact absurd H (by simp)
  · rw [if_neg c3] at H
    have c3b0 : decide ((a1.size : Int) ≤ (a0.size : Int)) = false := decide_eq_false c3
    have c3b1 : decide (a1.size ≤ a0.size) = false := decide_eq_false (fun h => c3 (Int.ofNat_le.mpr h))
    clear c3
    obtain rfl := Option.some.inj H
    go_enter Try.func110, Try.ntmps110
    go_wp2
    go_ret
    exact ⟨by first | rfl | (simp; done) | (simp [*]; done), by repeat (first | exact Drawn0.refl _ | apply Drawn0.step)⟩
def stringslite_CutPrefix.f (a0 : ByteArray) (a1 : ByteArray) : Option (ByteArray × Bool) := (stringslite_HasPrefix.f a0 a1).bind fun t138 => (if t138 = true then (if 0 ≤ (a1.size : Int) then (if (a1.size : Int) ≤ (a0.size : Int) then (some (a0.extract ((a1.size : Int) : Int).toNat a0.size, true)) else (none)) else (none)) else (some (a0, false)))
set_option maxHeartbeats 8000000 in
set_option maxRecDepth 100000 in
theorem stringslite_CutPrefix.calls (a0 : ByteArray) (a1 : ByteArray) (r1 : ByteArray) (r2 : Bool) (w : World) (h : stringslite_CutPrefix.f a0 a1 = some (r1, r2)) :
    Calls Try.prog 104 #[.string a0, .string a1] w fun e w' => e = .returned (.tuple #[.string r1, .bool r2]) ∧ Drawn0 w w' := by
  have H : ((stringslite_HasPrefix.f a0 a1).bind fun t138 => (if t138 = true then (if 0 ≤ (a1.size : Int) then (if (a1.size : Int) ≤ (a0.size : Int) then (some (a0.extract ((a1.size : Int) : Int).toNat a0.size, true)) else (none)) else (none)) else (some (a0, false)))) = some (r1, r2) := h
  clear h
  replace H := Option.bind_eq_some_iff.mp H
  obtain ⟨t138, A30, H⟩ := H
  replace H : (if t138 = true then (if 0 ≤ (a1.size : Int) then (if (a1.size : Int) ≤ (a0.size : Int) then (some (a0.extract ((a1.size : Int) : Int).toNat a0.size, true)) else (none)) else (none)) else (some (a0, false))) = some (r1, r2) := H
  have A3 := Aside0.mk A30
  clear A30
  by_cases c4 : t138 = true
  · subst c4
    have H1 : (if 0 ≤ (a1.size : Int) then (if (a1.size : Int) ≤ (a0.size : Int) then (some (a0.extract ((a1.size : Int) : Int).toNat a0.size, true)) else (none)) else (none)) = some (r1, r2) := by rw [if_pos rfl] at H; exact H
    clear H
    have H := H1
    clear H1
    by_cases c5 : 0 ≤ (a1.size : Int)
    · rw [if_pos c5] at H
      have c5b0 := eq_true c5
      have c5b1 : decide (0 ≤ (a1.size : Int)) = true := decide_eq_true c5
      clear c5
      by_cases c6 : (a1.size : Int) ≤ (a0.size : Int)
      · rw [if_pos c6] at H
        have c6b0 := eq_true c6
        have c6b1 : decide ((a1.size : Int) ≤ (a0.size : Int)) = true := decide_eq_true c6
        clear c6
        simp only [Option.some.injEq, Prod.mk.injEq] at H
        obtain ⟨rfl, rfl⟩ := H
        go_enter Try.func104, Try.ntmps104
        go_wp2_with (first | ((with_reducible refine gate_callee (f := 110) rfl ?_); refine goesL_ (some 8) rfl rfl Try.func110 (by kernel_rfl) rfl #[.string a0, .string a1] rfl (by (try simp only [List.map_toArray, List.map_cons, List.map_nil]); first | done | rfl | (simp only [List.length_drop, List.length_take]; rfl)) ?_; (with_reducible refine (stringslite_HasPrefix.calls a0 a1 true _ A3.out).mono ?_); rintro e w' ⟨rfl, ⟨nd, rfl⟩⟩; refine ⟨_, rfl, ?_⟩))
        go_ret2
        exact ⟨by first | rfl | (simp; done) | (simp [*]; done), by repeat (first | exact Drawn0.refl _ | apply Drawn0.step)⟩
      · rw [if_neg c6] at H
        exact absurd H (by simp)
    · rw [if_neg c5] at H
      exact absurd H (by simp)
  · replace c4 := Bool.eq_false_iff.mpr c4
    subst c4
    have H1 : (some (a0, false)) = some (r1, r2) := by rw [if_neg (show ¬ (false = true) by decide)] at H; exact H
    clear H
    have H := H1
    clear H1
    simp only [Option.some.injEq, Prod.mk.injEq] at H
    obtain ⟨rfl, rfl⟩ := H
    go_enter Try.func104, Try.ntmps104
    go_wp2_with (first | ((with_reducible refine gate_callee (f := 110) rfl ?_); refine goesL_ (some 8) rfl rfl Try.func110 (by kernel_rfl) rfl #[.string a0, .string a1] rfl (by (try simp only [List.map_toArray, List.map_cons, List.map_nil]); first | done | rfl | (simp only [List.length_drop, List.length_take]; rfl)) ?_; (with_reducible refine (stringslite_HasPrefix.calls a0 a1 false _ A3.out).mono ?_); rintro e w' ⟨rfl, ⟨nd, rfl⟩⟩; refine ⟨_, rfl, ?_⟩))
    go_ret2
    exact ⟨by first | rfl | (simp; done) | (simp [*]; done), by repeat (first | exact Drawn0.refl _ | apply Drawn0.step)⟩
def strings_CutPrefix.f (a0 : ByteArray) (a1 : ByteArray) : Option (ByteArray × Bool) := (stringslite_CutPrefix.f a0 a1).bind fun bt139 => (some (bt139.1, bt139.2))
set_option maxHeartbeats 8000000 in
set_option maxRecDepth 100000 in
theorem strings_CutPrefix.calls (a0 : ByteArray) (a1 : ByteArray) (r1 : ByteArray) (r2 : Bool) (w : World) (h : strings_CutPrefix.f a0 a1 = some (r1, r2)) :
    Calls Try.prog 92 #[.string a0, .string a1] w fun e w' => e = .returned (.tuple #[.string r1, .bool r2]) ∧ Drawn0 w w' := by
  have H : ((stringslite_CutPrefix.f a0 a1).bind fun bt139 => (some (bt139.1, bt139.2))) = some (r1, r2) := h
  clear h
  replace H := Option.bind_eq_some_iff.mp H
  obtain ⟨⟨t139, t140⟩, A30, H⟩ := H
  replace H : (some (t139, t140)) = some (r1, r2) := H
  have A3 := Aside0.mk A30
  clear A30
  simp only [Option.some.injEq, Prod.mk.injEq] at H
  obtain ⟨rfl, rfl⟩ := H
  go_enter Try.func92, Try.ntmps92
  go_wp2_with (first | ((with_reducible refine gate_callee (f := 104) rfl ?_); refine goesL_ (some 8) rfl rfl Try.func104 (by kernel_rfl) rfl #[.string a0, .string a1] rfl (by (try simp only [List.map_toArray, List.map_cons, List.map_nil]); first | done | rfl | (simp only [List.length_drop, List.length_take]; rfl)) ?_; (with_reducible refine (stringslite_CutPrefix.calls a0 a1 t139 t140 _ A3.out).mono ?_); rintro e w' ⟨rfl, ⟨nd, rfl⟩⟩; refine ⟨_, rfl, ?_⟩))
  go_ret2
  exact ⟨by first | rfl | (simp; done) | (simp [*]; done), by repeat (first | exact Drawn0.refl _ | apply Drawn0.step)⟩
def strings_Cut.f (a0 : ByteArray) (a1 : ByteArray) : Option (ByteArray × ByteArray × Bool) := if a1.size = 1 ∧ a0.size ≤ 9000000000000000000 then some (⟨(Lib.cut a0.data.toList a1.data.toList).1.toArray⟩, ⟨(Lib.cut a0.data.toList a1.data.toList).2.1.toArray⟩, (Lib.cut a0.data.toList a1.data.toList).2.2) else none
set_option maxRecDepth 100000 in
theorem strings_Cut.lite (s : ByteArray) (c : UInt8) (hs : s.size ≤ 9000000000000000000) (w : World) :
    Calls Try.prog 105 #[.string s, .string ⟨#[c]⟩] w fun e w' => e = .returned (.tuple #[.string ⟨(Lib.cut s.data.toList [c]).1.toArray⟩, .string ⟨(Lib.cut s.data.toList [c]).2.1.toArray⟩, .bool (Lib.cut s.data.toList [c]).2.2]) ∧ Drawn0 w w' := by
  have hz : (⟨#[c]⟩ : ByteArray).size = 1 := rfl
  have hone : Lib.indexB s ⟨#[c]⟩ = Lib.indexByte s.data.toList c := Lib.index_one _ _
  rcases Lib.indexB_cases s ⟨#[c]⟩ with hix | ⟨i, hix, hroom⟩
  · obtain ⟨e1, e2, e3⟩ := Lib.cutB_miss s ⟨#[c]⟩ hix
    have g1 : (Lib.cut s.data.toList [c]).1.toArray = s.data := congrArg ByteArray.data e1
    have g2 : (⟨(Lib.cut s.data.toList [c]).2.1.toArray⟩ : ByteArray) = ⟨#[]⟩ := e2
    have g3 : (Lib.cut s.data.toList [c]).2.2 = false := e3
    have H1 := Aside0.mk e1
    have H2 := Aside0.mk g2
    have H3 := Aside0.mk g3
    have HI := Aside0.mk (hone.symm.trans hix)
    clear e1 e2 e3 g1 g2 g3 hone hix
    go_enter Try.func105, Try.ntmps105
    go_wp2_with fail
    refine (Try.stringslite_Index_one s c _).mono ?_; rintro e w' ⟨rfl, rfl⟩
    rw [HI.out]
    go_wp2
    go_ret3
    exact ⟨by rw [H3.out, H2.out]; rw [show (⟨(Lib.cut s.data.toList [c]).1.toArray⟩ : ByteArray) = s from H1.out]; rfl, Drawn0.refl _⟩
  · obtain ⟨e1, e2, e3⟩ := Lib.cutB_hit s ⟨#[c]⟩ i hix
    have c1 : (0 : Int) ≤ ↑i := by omega
    have c2 : (↑i : Int) ≤ ↑s.size := by omega
    have c3 : (0 : Int) ≤ ↑i + 1 := by omega
    have c4 : (↑i + 1 : Int) ≤ ↑s.size := by omega
    have c5 : i ≤ s.size := by omega
    have c6 : i + 1 ≤ s.size := by omega
    have H1 := Aside0.mk e1
    have H2 := Aside0.mk e2
    have H3 := Aside0.mk e3
    have HI := Aside0.mk (hone.symm.trans hix)
    clear e1 e2 e3 hone hix
    go_enter Try.func105, Try.ntmps105
    go_wp2_with fail
    refine (Try.stringslite_Index_one s c _).mono ?_; rintro e w' ⟨rfl, rfl⟩
    rw [HI.out]
    go_wp2
    go_quiet (fail)
    go_wp2
    go_ret3
    exact ⟨by rw [H1.out, H2.out, H3.out]; rfl, Drawn0.step (Drawn0.refl _) _⟩
theorem strings_Cut.calls (a0 : ByteArray) (a1 : ByteArray) (r1 : ByteArray) (r2 : ByteArray) (r3 : Bool) (w : World) (h : strings_Cut.f a0 a1 = some (r1, r2, r3)) :
    Calls Try.prog 93 #[.string a0, .string a1] w fun e w' => e = .returned (.tuple #[.string r1, .string r2, .bool r3]) ∧ Drawn0 w w' := by
  unfold strings_Cut.f at h
  split at h
  · rename_i hb
    obtain ⟨c, rfl⟩ := Lib.one_byte a1 hb.1
    have h2 := Option.some.inj h
    obtain rfl := (Prod.mk.inj h2).1
    obtain rfl := (Prod.mk.inj (Prod.mk.inj h2).2).1
    obtain rfl := (Prod.mk.inj (Prod.mk.inj h2).2).2
    clear h h2
    have hs := hb.2
    clear hb
    go_enter Try.func93, Try.ntmps93
    go_wp2_with fail
    (with_reducible refine (strings_Cut.lite a0 c hs _).mono ?_); rintro e w' ⟨rfl, ⟨nd, rfl⟩⟩
    go_wp2
    go_ret3
    exact ⟨rfl, by repeat (first | exact Drawn0.refl _ | apply Drawn0.step)⟩
  · cases h
def ratio_digits.l0 : Nat → ByteArray → Int → Nat → Option (Bool)
  | 0, _, _, _ => none
  | k + 1, s, m, pos => if pos < s.size then (if ((Utf8.decode s pos).1 : Int) < 48 then (some false) else (if ((Utf8.decode s pos).1 : Int) > 57 then (some false) else (ratio_digits.l0 k s m (pos + (Utf8.decode s pos).2)))) else (if (s.size : Int) ≥ 1 then (if (s.size : Int) ≤ m then some true else some false) else some false)
def ratio_digits.f (k : Nat) (a0 : ByteArray) (a1 : Int) : Option (Bool) := ratio_digits.l0 k a0 a1 0
set_option maxHeartbeats 8000000 in
set_option maxRecDepth 100000 in
theorem ratio_digits.calls (k : Nat) (a0 : ByteArray) (a1 : Int) (r : Bool) (w : World) (h : ratio_digits.f k a0 a1 = some r) :
    Calls Try.prog 94 #[.string a0, .int .i64 a1] w fun e w' => e = .returned (.bool r) ∧ Below w.heap.size w w' := by
  have H : ratio_digits.l0 k a0 a1 0 = some r := h
  clear h
  have H' := Aside0.mk H
  clear H
  go_enter Try.func94, Try.ntmps94
  go_wp2
  go_loopg [4] k (fun kq v4 w' => ∃ (pos : Nat), v4 = .bool false ∧ Aside0 (ratio_digits.l0 kq a0 a1 pos = some r) ∧ Aside0 (w'.heap[w.heap.size]? = some (.stringIter a0 pos)) ∧ Aside0 (Below w.heap.size w w'))
  case atStart => exact ⟨0, rfl, H', ⟨World.iter_heap w a0 0⟩, ⟨(Below.refl _ _).alloc (Nat.le_refl _) _⟩⟩
  case round =>
    clear H'
    obtain ⟨pos, rfl, HA, hit, HB⟩ := hrel
    cases gk with
    | zero => exact absurd HA.out (by simp [ratio_digits.l0])
    | succ k1 =>
      have H := HA.out
      clear HA
      simp only [ratio_digits.l0] at H
      by_cases hp : pos < a0.size
      · rw [if_pos hp] at H
        have hnx : ∀ ty, (Instr.next (.pointer (some ⟨w.heap.size, 0, none⟩)) true ty).run Try.prog wr = _ := fun ty => Lib.run_next_any_at wr w.heap.size a0 pos ty hit.out hp
        have hit2 := Aside0.mk (Lib.iterAt_heap wr w.heap.size a0 pos (pos + (Utf8.decode a0 pos).2) hit.out)
        have hB2 := Aside0.mk (Lib.below_iterAt HB.out (k := w.heap.size) (Nat.le_refl _) a0 (pos + (Utf8.decode a0 pos).2))
        obtain ⟨W1, hW1⟩ : ∃ W1, W1 = wr.iterAt w.heap.size a0 (pos + (Utf8.decode a0 pos).2) := ⟨_, rfl⟩
        rw [← hW1] at hnx hit2 hB2
        clear hW1 hit HB
        have hc0 : (0 : Int) ≤ ((Utf8.decode a0 pos).1 : Int) := by omega
        generalize ((Utf8.decode a0 pos).1 : Int) = c at *
        generalize pos + (Utf8.decode a0 pos).2 = pos2 at *
        by_cases c1 : c < 48
        · rw [if_pos c1] at H
          have c1b : decide (c < 48) = true := decide_eq_true c1
          clear c1
          obtain rfl := Option.some.inj H
          go_wp2
          go_ret
          exact ⟨rfl, hB2.out⟩
        · rw [if_neg c1] at H
          have c1b : decide (c < 48) = false := decide_eq_false c1
          by_cases c2 : c > 57
          · rw [if_pos c2] at H
            have c2b : decide (57 < c) = true := decide_eq_true c2
            clear c1 c2
            obtain rfl := Option.some.inj H
            go_wp2
            go_ret
            exact ⟨rfl, hB2.out⟩
          · rw [if_neg c2] at H
            have c2b : decide (57 < c) = false := decide_eq_false c2
            have H' := Aside0.mk H
            clear H c1 c2
            go_wp2
            go_roundg k1
            case measure => omega
            case rel => exact ⟨pos2, rfl, H', hit2, hB2⟩
      · rw [if_neg hp] at H
        have hnx : ∀ ty, (Instr.next (.pointer (some ⟨w.heap.size, 0, none⟩)) true ty).run Try.prog wr = _ := fun ty => Lib.run_next_end_at wr w.heap.size a0 pos ty hit.out hp
        by_cases c3 : (a0.size : Int) ≥ 1
        · rw [if_pos c3] at H
          have c3b : decide (1 ≤ (a0.size : Int)) = true := decide_eq_true c3
          have c3c : decide (1 ≤ a0.size) = true := decide_eq_true (by omega)
          by_cases c4 : (a0.size : Int) ≤ a1
          · rw [if_pos c4] at H
            have c4b : decide ((a0.size : Int) ≤ a1) = true := decide_eq_true c4
            clear c3 c4 hp
            obtain rfl := Option.some.inj H
            go_wp2
            go_ret
            exact ⟨rfl, HB.out⟩
          · rw [if_neg c4] at H
            have c4b : decide ((a0.size : Int) ≤ a1) = false := decide_eq_false c4
            clear c3 c4 hp
            obtain rfl := Option.some.inj H
            go_wp2
            go_ret
            exact ⟨rfl, HB.out⟩
        · rw [if_neg c3] at H
          have c3b : decide (1 ≤ (a0.size : Int)) = false := decide_eq_false c3
          have c3c : decide (1 ≤ a0.size) = false := decide_eq_false (by omega)
          clear c3 hp
          obtain rfl := Option.some.inj H
          go_wp2
          go_ret
          exact ⟨rfl, HB.out⟩
def ratio_value.l0 : Nat → ByteArray → Nat → Int → Option (Int)
  | 0, _, _, _ => none
  | k + 1, s, pos, n => if pos < s.size then (if 48 ≤ ((Utf8.decode s pos).1 : Int) ∧ ((Utf8.decode s pos).1 : Int) ≤ 57 ∧ 0 ≤ n ∧ n ≤ 100000000000000000 then (ratio_value.l0 k s (pos + (Utf8.decode s pos).2) (10 * n + (((Utf8.decode s pos).1 : Int) - 48))) else none) else some n
def ratio_value.f (k : Nat) (a0 : ByteArray) : Option (Int) := ratio_value.l0 k a0 0 0
set_option maxHeartbeats 8000000 in
set_option maxRecDepth 100000 in
theorem ratio_value.calls (k : Nat) (a0 : ByteArray) (r : Int) (w : World) (h : ratio_value.f k a0 = some r) :
    Calls Try.prog 95 #[.string a0] w fun e w' => e = .returned (.int .i64 r) ∧ Below w.heap.size w w' := by
  have H : ratio_value.l0 k a0 0 0 = some r := h
  clear h
  have H' := Aside0.mk H
  clear H
  go_enter Try.func95, Try.ntmps95
  go_wp2
  go_loopg [3] k (fun kq v3 w' => ∃ (pos : Nat) (n : Int), v3 = .int .i64 n ∧ Aside0 (ratio_value.l0 kq a0 pos n = some r) ∧ Aside0 (w'.heap[w.heap.size]? = some (.stringIter a0 pos)) ∧ Aside0 (Below w.heap.size w w'))
  case atStart => exact ⟨0, 0, rfl, H', ⟨World.iter_heap w a0 0⟩, ⟨(Below.refl _ _).alloc (Nat.le_refl _) _⟩⟩
  case round =>
    clear H'
    obtain ⟨pos, n, rfl, HA, hit, HB⟩ := hrel
    cases gk with
    | zero => exact absurd HA.out (by simp [ratio_value.l0])
    | succ k1 =>
      have H := HA.out
      clear HA
      simp only [ratio_value.l0] at H
      by_cases hp : pos < a0.size
      · rw [if_pos hp] at H
        have hnx : ∀ ty, (Instr.next (.pointer (some ⟨w.heap.size, 0, none⟩)) true ty).run Try.prog wr = _ := fun ty => Lib.run_next_any_at wr w.heap.size a0 pos ty hit.out hp
        have hit2 := Aside0.mk (Lib.iterAt_heap wr w.heap.size a0 pos (pos + (Utf8.decode a0 pos).2) hit.out)
        have hB2 := Aside0.mk (Lib.below_iterAt HB.out (k := w.heap.size) (Nat.le_refl _) a0 (pos + (Utf8.decode a0 pos).2))
        obtain ⟨W1, hW1⟩ : ∃ W1, W1 = wr.iterAt w.heap.size a0 (pos + (Utf8.decode a0 pos).2) := ⟨_, rfl⟩
        rw [← hW1] at hnx hit2 hB2
        clear hW1 hit HB
        generalize ((Utf8.decode a0 pos).1 : Int) = c at *
        generalize pos + (Utf8.decode a0 pos).2 = pos2 at *
        by_cases c1 : 48 ≤ c ∧ c ≤ 57 ∧ 0 ≤ n ∧ n ≤ 100000000000000000
        · rw [if_pos c1] at H
          obtain ⟨b1, b2, b3, b4⟩ := c1
          have hw1 : IntKind.i32.wrap (c - 48) = c - 48 := by rw [IntKind.wrap_i32]; omega
          have hw2 : wrap32 (c - 48) = c - 48 := by unfold wrap32; omega
          have HN := Aside0.mk H
          clear H
          go_wp2
          go_roundg k1
          case measure => omega
          case rel => exact ⟨pos2, _, by first | rfl | go_num, HN, hit2, hB2⟩
        · rw [if_neg c1] at H; cases H
      · rw [if_neg hp] at H
        have hnx : ∀ ty, (Instr.next (.pointer (some ⟨w.heap.size, 0, none⟩)) true ty).run Try.prog wr = _ := fun ty => Lib.run_next_end_at wr w.heap.size a0 pos ty hit.out hp
        clear hp
        obtain rfl := Option.some.inj H
        go_wp2
        go_ret
        exact ⟨rfl, HB.out⟩
def math_Copysign.f (a0 : Nat) (a1 : Nat) : Option (Nat) := some (Go.bits .or .u64 (Go.bits .andNot .u64 (a0 : Int) 9223372036854775808) (Go.bits .and .u64 (a1 : Int) 9223372036854775808)).toNat
set_option maxRecDepth 100000 in
theorem math_Copysign.calls (a0 : Nat) (a1 : Nat) (r : Nat) (w : World) (h : math_Copysign.f a0 a1 = some r) :
    Calls Try.prog 96 #[.float .f64 a0, .float .f64 a1] w fun e w' => e = .returned (.float .f64 r) ∧ Drawn0 w w' := by
  obtain rfl := Option.some.inj h
  clear h
  go_enter Try.func96, Try.ntmps96
  go_wp2
  go_ret
  exact ⟨by first | rfl | simp, by repeat (first | exact Drawn0.refl _ | apply Drawn0.step)⟩
end Go.Proofs.Ytipbigdpannlcaa.PTrieFits
