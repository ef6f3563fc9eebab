/- What the law TrieFits uses, thinned: printed by shake2.py. -/
import Derived.Test.YtipbigdpannlcaaTTrieFitsPTrieFitsx0
import Derived.Test.YtipbigdpannlcaaTTrieFitsPTrieFitsx1
import Derived.Test.YtipbigdpannlcaaTTrieFitsPTrieFitsx2
import Derived.Test.YtipbigdpannlcaaTTrieFitsPTrieFitsx3
namespace Go.Proofs.Ytipbigdpannlcaa.PTrieFits
open Go.RowKit Go.Proofs.YtipbigdpannlcaaW.PrintWords Go.Proofs.YtipbigdpannlcaaW.PrintLast Go.Proofs.YtipbigdpannlcaaW.PrintMore
attribute [local go_sem] max2_int min2_int max_two min_two max_three min_three max_four min_four
set_option linter.unusedVariables false
set_option linter.unusedSimpArgs false
mutual
def ratio_Write.j0 : Nat → Nat → ByteArray → Bool → Option (ByteArray × Bool)
  | 0, _, _, _ => none
  | k + 1, x0, x4, x24 => if x24 = true then (some (x4, true)) else ((math_Signbit.f x0).bind fun t156 => (if t156 = true then (ratio_Write.j1 k x0 (⟨#[45]⟩ : ByteArray)) else (ratio_Write.j1 k x0 (⟨#[]⟩ : ByteArray))))
def ratio_Write.j1 : Nat → Nat → ByteArray → Option (ByteArray × Bool)
  | 0, _, _ => none
  | k + 1, x0, x5 => (math_Abs.f x0).bind fun t157 => ((ratio_ten.f k 9).bind fun t158 => (if (fge t157 (fofi t158)) = true then (some ((⟨#[]⟩ : ByteArray), false)) else (ratio_Write.l0 k x0 x5 t157 0)))
def ratio_Write.l0 : Nat → Nat → ByteArray → Nat → Int → Option (ByteArray × Bool)
  | 0, _, _, _, _ => none
  | k + 1, x0, x5, x6, x7 => if x7 ≤ 6 then ((ratio_ten.f k x7).bind fun t159 => (if (fmulOk x6 (fofi t159)) = true then (if (f2iOk (fmul x6 (fofi t159))) = true then (ratio_Write.l1 k x0 x5 x6 x7 (f2i (fmul x6 (fofi t159))) (mx (wrap64 ((f2i (fmul x6 (fofi t159))) - 1)) 0)) else (none)) else (none))) else (some ((⟨#[]⟩ : ByteArray), false))
def ratio_Write.l1 : Nat → Nat → ByteArray → Nat → Int → Int → Int → Option (ByteArray × Bool)
  | 0, _, _, _, _, _, _ => none
  | k + 1, x0, x5, x6, x7, x8, x9 => if x9 ≤ (wrap64 (x8 + 1)) then ((ratio_ten.f k x7).bind fun t160 => (if t160 = 0 then (none) else ((num_Digits.f k (wrap64 (Int.tdiv x9 t160))).bind fun t161 => (if x5.size + t161.size ≤ 9223372036854775807 then (if x7 > 0 then ((ratio_ten.f k x7).bind fun t162 => (if t162 = 0 then (none) else ((ratio_fill.f k (Int.tmod x9 t162) x7).bind fun t163 => (if 1 + t163.size ≤ 9223372036854775807 then (if x5.size + t161.size + 1 + t163.size ≤ 9223372036854775807 then (ratio_Write.j4 k x0 x5 x6 x7 x8 x9 ((x5 ++ t161) ++ ((⟨#[46]⟩ : ByteArray) ++ t163))) else (none)) else (none))))) else (ratio_Write.j4 k x0 x5 x6 x7 x8 x9 (x5 ++ t161))) else (none))))) else (ratio_Write.l0 k x0 x5 x6 (wrap64 (x7 + 1)))
def ratio_Write.j4 : Nat → Nat → ByteArray → Nat → Int → Int → Int → ByteArray → Option (ByteArray × Bool)
  | 0, _, _, _, _, _, _, _ => none
  | k + 1, x0, x5, x6, x7, x8, x9, x10 => (ratio_Parse.f k x10).bind fun bt164 => (if bt164.2 = true then ((ratio_Same.f x0 bt164.1).bind fun t166 => (if t166 = true then (some (x10, true)) else (ratio_Write.l1 k x0 x5 x6 x7 x8 (wrap64 (x9 + 1))))) else (ratio_Write.l1 k x0 x5 x6 x7 x8 (wrap64 (x9 + 1))))
end
def ratio_Write.f (k : Nat) (a0 : Nat) : Option (ByteArray × Bool) := (ratio_Text.f k a0).bind fun t155 => (if t155.toList = ([110, 97, 110] : List UInt8) then (ratio_Write.j0 k a0 t155 true) else (if t155.toList = ([105, 110, 102] : List UInt8) then (ratio_Write.j0 k a0 t155 true) else (ratio_Write.j0 k a0 t155 (t155.toList == ([45, 105, 110, 102] : List UInt8)))))
set_option maxHeartbeats 8000000 in
set_option maxRecDepth 100000 in
theorem ratio_Write.calls (k : Nat) (a0 : Nat) (r1 : ByteArray) (r2 : Bool) (w : World) (h : ratio_Write.f k a0 = some (r1, r2)) :
    Calls Try.prog 75 #[.float .f64 a0] w fun e w' => e = .returned (.tuple #[.string r1, .bool r2]) ∧ Below w.heap.size w w' := by
  have HB := Aside0.mk (Below.refl w.heap.size w)
  have H : ((ratio_Text.f k a0).bind fun t155 => (if t155.toList = ([110, 97, 110] : List UInt8) then (ratio_Write.j0 k a0 t155 true) else (if t155.toList = ([105, 110, 102] : List UInt8) then (ratio_Write.j0 k a0 t155 true) else (ratio_Write.j0 k a0 t155 (t155.toList == ([45, 105, 110, 102] : List UInt8)))))) = some (r1, r2) := h
  clear h
  replace H := Option.bind_eq_some_iff.mp H
  obtain ⟨t155, A20, H⟩ := H
  replace H : (if t155.toList = ([110, 97, 110] : List UInt8) then (ratio_Write.j0 k a0 t155 true) else (if t155.toList = ([105, 110, 102] : List UInt8) then (ratio_Write.j0 k a0 t155 true) else (ratio_Write.j0 k a0 t155 (t155.toList == ([45, 105, 110, 102] : List UInt8))))) = some (r1, r2) := H
  have A2 := Aside0.mk A20
  clear A20
  have HC3 := Aside0.mk H
  clear H
  go_enter Try.func75, Try.ntmps75
  go_upto_region 2 with (first | ((with_reducible refine gate_callee (f := 81) rfl ?_); refine goesL_ (some 14) rfl rfl Try.func81 (by kernel_rfl) rfl #[.float .f64 a0] rfl (by (try simp only [List.map_toArray, List.map_cons, List.map_nil]); first | done | rfl | (simp only [List.length_drop, List.length_take]; rfl)) ?_; (with_reducible refine (ratio_Text.calls k a0 t155 _ A2.out).mono ?_); rintro e w4 ⟨rfl, hb⟩; refine ⟨_, rfl, ?_⟩; have n0_ := Aside0.mk (below_step (by repeat (first | (with_reducible first | exact HB.out | apply below_alloc | apply pw_below_drewN | apply below_drew1) | exact HB.out)) hb); clear HB; have HB := n0_; clear n0_; (try clear hb); (try clear hb2); (try clear hk); (try clear hi)))
  (try simp only [Act.put, List.setIfInBounds_toArray, List.set_cons_zero, List.set_cons_succ])
  go_cut [24] (fun v24 wc => ∃ (kq : Nat) (x24_2 : Bool), v24 = .bool x24_2 ∧ Aside0 (ratio_Write.j0 kq a0 t155 x24_2 = some (r1, r2)) ∧ Aside0 (kq ≤ k) ∧ Aside0 (Below w.heap.size w wc))
  case first =>
    have H := HC3.out
    clear HC3
    by_cases c5 : t155.toList = ([110, 97, 110] : List UInt8)
    · rw [if_pos c5] at H
      have c5b0 : (t155.toList == ([110, 97, 110] : List UInt8)) = true := beq_iff_eq.mpr c5
      have c5b1 : (t155.toList != ([110, 97, 110] : List UInt8)) = false := bne_eq_false_iff_eq.mpr c5
      clear c5
      (first | rw [c5b0] | (simp only [i64_w, i32_w]; rw [c5b0]) | skip)
      have H' := Aside0.mk H
      clear H
      go_wp2
      go_meet
      case rel => exact ⟨_, (true), (by first | rfl | (simp; done) | (simp [*]; done)), H', ⟨by first | omega | exact Nat.le_refl _⟩, ⟨by repeat (first | (with_reducible first | exact HB.out | apply below_alloc | apply pw_below_drewN | apply below_drew1) | exact HB.out)⟩⟩
    · rw [if_neg c5] at H
      have c5b0 : (t155.toList == ([110, 97, 110] : List UInt8)) = false := beq_eq_false_iff_ne.mpr c5
      have c5b1 : (t155.toList != ([110, 97, 110] : List UInt8)) = true := bne_iff_ne.mpr c5
      (first | rw [c5b0] | (simp only [i64_w, i32_w]; rw [c5b0]) | skip)
      by_cases c6 : t155.toList = ([105, 110, 102] : List UInt8)
      · rw [if_pos c6] at H
        have c6b0 : (t155.toList == ([105, 110, 102] : List UInt8)) = true := beq_iff_eq.mpr c6
        have c6b1 : (t155.toList != ([105, 110, 102] : List UInt8)) = false := bne_eq_false_iff_eq.mpr c6
        clear c6
        have H' := Aside0.mk H
        clear H
        go_wp2
        go_meet
        case rel => exact ⟨_, (true), (by first | rfl | (simp; done) | (simp [*]; done)), H', ⟨by first | omega | exact Nat.le_refl _⟩, ⟨by repeat (first | (with_reducible first | exact HB.out | apply below_alloc | apply pw_below_drewN | apply below_drew1) | exact HB.out)⟩⟩
      · rw [if_neg c6] at H
        have c6b0 : (t155.toList == ([105, 110, 102] : List UInt8)) = false := beq_eq_false_iff_ne.mpr c6
        have c6b1 : (t155.toList != ([105, 110, 102] : List UInt8)) = true := bne_iff_ne.mpr c6
        have H' := Aside0.mk H
        clear H
        go_wp2
        go_meet
        case rel => exact ⟨_, ((t155.toList == ([45, 105, 110, 102] : List UInt8))), (by first | rfl | (simp; done) | (simp [*]; done)), H', ⟨by first | omega | exact Nat.le_refl _⟩, ⟨by repeat (first | (with_reducible first | exact HB.out | apply below_alloc | apply pw_below_drewN | apply below_drew1) | exact HB.out)⟩⟩
  case rest =>
    clear HC3
    try clear p2
    try clear c5
    try clear c5b0
    try clear c5b1
    try clear c6
    try clear c6b0
    try clear c6b1
    obtain ⟨kq, x24_2, rfl, HA, HJ2, HB⟩ := hcut
    cases kq with
    | zero => exact absurd HA.out (by simp [ratio_Write.j0])
    | succ kj2 =>
      have H := HA.out
      clear HA
      simp only [ratio_Write.j0] at H
      by_cases c7 : x24_2 = true
      · subst c7
        have H1 : (some (t155, true)) = some (r1, r2) := by rw [if_pos rfl] at H; exact H
        clear H
        have H := H1
        clear H1
        simp only [Option.some.injEq, Prod.mk.injEq] at H
        obtain ⟨rfl, rfl⟩ := H
        go_wp2
        go_ret2
        exact ⟨by first | rfl | (simp [errW_none, errW_some] <;> rfl) | (simp [*, errW_none, errW_some] <;> rfl), by repeat (first | (with_reducible first | exact HB.out | apply below_alloc | apply pw_below_drewN | apply below_drew1) | exact HB.out)⟩
      · replace c7 := Bool.eq_false_iff.mpr c7
        subst c7
        have H1 : ((math_Signbit.f a0).bind fun t156 => (if t156 = true then (ratio_Write.j1 kj2 a0 (⟨#[45]⟩ : ByteArray)) else (ratio_Write.j1 kj2 a0 (⟨#[]⟩ : ByteArray)))) = some (r1, r2) := by rw [if_neg (show ¬ (false = true) by decide)] at H; exact H
        clear H
        have H := H1
        clear H1
        replace H := Option.bind_eq_some_iff.mp H
        obtain ⟨t156, A80, H⟩ := H
        replace H : (if t156 = true then (ratio_Write.j1 kj2 a0 (⟨#[45]⟩ : ByteArray)) else (ratio_Write.j1 kj2 a0 (⟨#[]⟩ : ByteArray))) = some (r1, r2) := H
        have A8 := Aside0.mk A80
        clear A80
        have HC9 := Aside0.mk H
        clear H
        go_upto_if 27 with (first | ((with_reducible refine gate_callee (f := 69) rfl ?_); refine goesL_ (some 27) rfl rfl Try.func69 (by kernel_rfl) rfl #[.float .f64 a0] rfl (by (try simp only [List.map_toArray, List.map_cons, List.map_nil]); first | done | rfl | (simp only [List.length_drop, List.length_take]; rfl)) ?_; (with_reducible refine (math_Signbit.calls a0 t156 _ A8.out).mono ?_); rintro e w' ⟨rfl, ⟨nd, rfl⟩⟩; refine ⟨_, rfl, ?_⟩))
        (try simp only [Act.put, List.setIfInBounds_toArray, List.set_cons_zero, List.set_cons_succ])
        go_cut [5] (fun v5 wc => ∃ (kq : Nat) (x5_8 : ByteArray), v5 = .string x5_8 ∧ Aside0 (ratio_Write.j1 kq a0 x5_8 = some (r1, r2)) ∧ Aside0 (kq ≤ kj2) ∧ Aside0 (Below w.heap.size w wc))
        case first =>
          have H := HC9.out
          clear HC9
          by_cases c10 : t156 = true
          · subst c10
            have H1 : (ratio_Write.j1 kj2 a0 (⟨#[45]⟩ : ByteArray)) = some (r1, r2) := by rw [if_pos rfl] at H; exact H
            clear H
            have H := H1
            clear H1
            have H' := Aside0.mk H
            clear H
            go_wp2
            go_meet
            case rel => exact ⟨_, ((⟨#[45]⟩ : ByteArray)), (by first | rfl | (simp; done) | (simp [*]; done)), H', ⟨by have := HJ2.out; first | omega | exact Nat.le_refl _⟩, ⟨by repeat (first | (with_reducible first | exact HB.out | apply below_alloc | apply pw_below_drewN | apply below_drew1) | exact HB.out)⟩⟩
          · replace c10 := Bool.eq_false_iff.mpr c10
            subst c10
            have H1 : (ratio_Write.j1 kj2 a0 (⟨#[]⟩ : ByteArray)) = some (r1, r2) := by rw [if_neg (show ¬ (false = true) by decide)] at H; exact H
            clear H
            have H := H1
            clear H1
            have H' := Aside0.mk H
            clear H
            go_wp2
            go_meet
            case rel => exact ⟨_, ((⟨#[]⟩ : ByteArray)), (by first | rfl | (simp; done) | (simp [*]; done)), H', ⟨by have := HJ2.out; first | omega | exact Nat.le_refl _⟩, ⟨by repeat (first | (with_reducible first | exact HB.out | apply below_alloc | apply pw_below_drewN | apply below_drew1) | exact HB.out)⟩⟩
        case rest =>
          clear HC9
          try clear c1
          try clear p2
          try clear c5
          try clear c5b0
          try clear c5b1
          try clear c6
          try clear c6b0
          try clear c6b1
          try clear c7
          try clear c8
          try clear c10
          try clear p2
          obtain ⟨kq, x5_8, rfl, HA, HJ8, HB⟩ := hcut
          cases kq with
          | zero => exact absurd HA.out (by simp [ratio_Write.j1])
          | succ kj8 =>
            have H := HA.out
            clear HA
            simp only [ratio_Write.j1] at H
            replace H := Option.bind_eq_some_iff.mp H
            obtain ⟨t157, A110, H⟩ := H
            replace H : ((ratio_ten.f kj8 9).bind fun t158 => (if (fge t157 (fofi t158)) = true then (some ((⟨#[]⟩ : ByteArray), false)) else (ratio_Write.l0 kj8 a0 x5_8 t157 0))) = some (r1, r2) := H
            have A11 := Aside0.mk A110
            clear A110
            replace H := Option.bind_eq_some_iff.mp H
            obtain ⟨t158, A120, H⟩ := H
            replace H : (if (fge t157 (fofi t158)) = true then (some ((⟨#[]⟩ : ByteArray), false)) else (ratio_Write.l0 kj8 a0 x5_8 t157 0)) = some (r1, r2) := H
            have A12 := Aside0.mk A120
            clear A120
            by_cases c13 : (fge t157 (fofi t158)) = true
            · rw [if_pos c13] at H
              have c13b0 : (fge t157 (fofi t158)) = true := c13
              clear c13
              simp only [Option.some.injEq, Prod.mk.injEq] at H
              obtain ⟨rfl, rfl⟩ := H
              go_wp2_with (first | ((with_reducible refine gate_callee (f := 71) rfl ?_); refine goesL_ (some 29) rfl rfl Try.func71 (by kernel_rfl) rfl #[.float .f64 a0] rfl (by (try simp only [List.map_toArray, List.map_cons, List.map_nil]); first | done | rfl | (simp only [List.length_drop, List.length_take]; rfl)) ?_; (with_reducible refine (math_Abs.calls a0 t157 _ A11.out).mono ?_); rintro e w' ⟨rfl, ⟨nd, rfl⟩⟩; refine ⟨_, rfl, ?_⟩) | ((with_reducible refine gate_callee (f := 82) rfl ?_); refine goesL_ (some 31) rfl rfl Try.func82 (by kernel_rfl) rfl #[.int .i64 9] rfl (by (try simp only [List.map_toArray, List.map_cons, List.map_nil]); first | done | rfl | (simp only [List.length_drop, List.length_take]; rfl)) ?_; (with_reducible refine (ratio_ten.calls kj8 9 t158 _ A12.out).mono ?_); rintro e w' ⟨rfl, ⟨nd, rfl⟩⟩; refine ⟨_, rfl, ?_⟩))
              go_ret2
              exact ⟨by first | rfl | (simp [errW_none, errW_some] <;> rfl) | (simp [*, errW_none, errW_some] <;> rfl), by repeat (first | (with_reducible first | exact HB.out | apply below_alloc | apply pw_below_drewN | apply below_drew1) | exact HB.out)⟩
            · rw [if_neg c13] at H
              have c13b0 : (fge t157 (fofi t158)) = false := by simpa using c13
              clear c13
              have H' := Aside0.mk H
              clear H
              go_wp2_with (first | ((with_reducible refine gate_callee (f := 71) rfl ?_); refine goesL_ (some 29) rfl rfl Try.func71 (by kernel_rfl) rfl #[.float .f64 a0] rfl (by (try simp only [List.map_toArray, List.map_cons, List.map_nil]); first | done | rfl | (simp only [List.length_drop, List.length_take]; rfl)) ?_; (with_reducible refine (math_Abs.calls a0 t157 _ A11.out).mono ?_); rintro e w' ⟨rfl, ⟨nd, rfl⟩⟩; refine ⟨_, rfl, ?_⟩) | ((with_reducible refine gate_callee (f := 82) rfl ?_); refine goesL_ (some 31) rfl rfl Try.func82 (by kernel_rfl) rfl #[.int .i64 9] rfl (by (try simp only [List.map_toArray, List.map_cons, List.map_nil]); first | done | rfl | (simp only [List.length_drop, List.length_take]; rfl)) ?_; (with_reducible refine (ratio_ten.calls kj8 9 t158 _ A12.out).mono ?_); rintro e w' ⟨rfl, ⟨nd, rfl⟩⟩; refine ⟨_, rfl, ?_⟩))
              go_loopg [7] kj8 (fun kq v7 w' => ∃ (x7_3 : Int), v7 = .int .i64 x7_3 ∧ Aside0 (ratio_Write.l0 kq a0 x5_8 t157 x7_3 = some (r1, r2)) ∧ Aside0 (kq ≤ kj8) ∧ Aside0 (Below w.heap.size w w'))
              case atStart => exact ⟨(0), (by first | rfl | (simp; done) | (simp [*]; done)), H', ⟨Nat.le_refl _⟩, ⟨by repeat (first | (with_reducible first | exact HB.out | apply below_alloc | apply pw_below_drewN | apply below_drew1) | exact HB.out)⟩⟩
              case round =>
                clear H'
                try clear c1
                try clear p2
                try clear c5
                try clear c5b0
                try clear c5b1
                try clear c6
                try clear c6b0
                try clear c6b1
                try clear c7
                try clear c8
                try clear c10
                try clear c13
                try clear c13b0
                try clear p2
                obtain ⟨x7_3, rfl, HA, HK3, HB⟩ := hrel
                cases gk with
                | zero => exact absurd HA.out (by simp [ratio_Write.l0])
                | succ k3 =>
                  have H := HA.out
                  clear HA
                  simp only [ratio_Write.l0] at H
                  by_cases c14 : x7_3 ≤ 6
                  · rw [if_pos c14] at H
                    have c14b0 : decide (x7_3 ≤ 6) = true := decide_eq_true c14
                    clear c14
                    replace H := Option.bind_eq_some_iff.mp H
                    obtain ⟨t159, A150, H⟩ := H
                    replace H : (if (fmulOk t157 (fofi t159)) = true then (if (f2iOk (fmul t157 (fofi t159))) = true then (ratio_Write.l1 k3 a0 x5_8 t157 x7_3 (f2i (fmul t157 (fofi t159))) (mx (wrap64 ((f2i (fmul t157 (fofi t159))) - 1)) 0)) else (none)) else (none)) = some (r1, r2) := H
                    have A15 := Aside0.mk A150
                    clear A150
                    by_cases c16 : (fmulOk t157 (fofi t159)) = true
                    · rw [if_pos c16] at H
                      have c16b0 := eq_true c16
                      have c16b1 : decide ((fmulOk t157 (fofi t159)) = true) = true := decide_eq_true c16
                      clear c16
                      by_cases c17 : (f2iOk (fmul t157 (fofi t159))) = true
                      · rw [if_pos c17] at H
                        have c17b0 := eq_true c17
                        have c17b1 : decide ((f2iOk (fmul t157 (fofi t159))) = true) = true := decide_eq_true c17
                        clear c17
                        obtain ⟨ji18, hji18⟩ : ∃ j_ : Int, (mx (wrap64 ((f2i (fmul t157 (fofi t159))) - 1)) 0) = j_ := ⟨_, rfl⟩
                        replace H : (ratio_Write.l1 k3 a0 x5_8 t157 x7_3 (f2i (fmul t157 (fofi t159))) ji18) = some (r1, r2) := by first | (rw [hji18] at H; exact H) | (simp only [hji18] at H ⊢; exact H)
                        (try rw [hji18] at A15)
                        have hji18_ : (if (wrap64 ((f2i (fmul t157 (fofi t159))) - 1)) < 0 then 0 else (wrap64 ((f2i (fmul t157 (fofi t159))) - 1))) = ji18 := hji18
                        have H' := Aside0.mk H
                        clear H
                        go_wp2_with (first | ((with_reducible refine gate_callee (f := 82) rfl ?_); refine goesL_ (some 40) rfl rfl Try.func82 (by kernel_rfl) rfl #[.int .i64 x7_3] rfl (by (try simp only [List.map_toArray, List.map_cons, List.map_nil]); first | done | rfl | (simp only [List.length_drop, List.length_take]; rfl)) ?_; (with_reducible refine (ratio_ten.calls k3 x7_3 t159 _ A15.out).mono ?_); rintro e w' ⟨rfl, ⟨nd, rfl⟩⟩; refine ⟨_, rfl, ?_⟩))
                        go_loopg [9] k3 (fun kq v9 w' => ∃ (x9_4 : Int), v9 = .int .i64 x9_4 ∧ Aside0 (ratio_Write.l1 kq a0 x5_8 t157 x7_3 (f2i (fmul t157 (fofi t159))) x9_4 = some (r1, r2)) ∧ Aside0 (kq ≤ k3) ∧ Aside0 (Below w.heap.size w w'))
                        case atStart => exact ⟨(ji18), (by first | rfl | (simp; done) | (simp only [← hji18] <;> (first | rfl | simp)) | (simp [*]; done)), H', ⟨Nat.le_refl _⟩, ⟨by repeat (first | (with_reducible first | exact HB.out | apply below_alloc | apply pw_below_drewN | apply below_drew1) | exact HB.out)⟩⟩
                        case round =>
                          clear H'
                          try clear c1
                          try clear p2
                          try clear c5
                          try clear c5b0
                          try clear c5b1
                          try clear c6
                          try clear c6b0
                          try clear c6b1
                          try clear p6
                          try clear c7
                          try clear c8
                          try clear c10
                          try clear c13
                          try clear c13b0
                          try clear c14
                          try clear c14b0
                          try clear c16
                          try clear c16b0
                          try clear c16b1
                          try clear c17
                          try clear c17b0
                          try clear c17b1
                          try clear p2
                          obtain ⟨x9_4, rfl, HA, HK4, HB⟩ := hrel
                          cases gk with
                          | zero => exact absurd HA.out (by simp [ratio_Write.l1])
                          | succ k4 =>
                            have H := HA.out
                            clear HA
                            simp only [ratio_Write.l1] at H
                            by_cases c19 : x9_4 ≤ (wrap64 ((f2i (fmul t157 (fofi t159))) + 1))
                            · rw [if_pos c19] at H
                              have c19b0 : decide (x9_4 ≤ (wrap64 ((f2i (fmul t157 (fofi t159))) + 1))) = true := decide_eq_true c19
                              clear c19
                              replace H := Option.bind_eq_some_iff.mp H
                              obtain ⟨t160, A200, H⟩ := H
                              replace H : (if t160 = 0 then (none) else ((num_Digits.f k4 (wrap64 (Int.tdiv x9_4 t160))).bind fun t161 => (if x5_8.size + t161.size ≤ 9223372036854775807 then (if x7_3 > 0 then ((ratio_ten.f k4 x7_3).bind fun t162 => (if t162 = 0 then (none) else ((ratio_fill.f k4 (Int.tmod x9_4 t162) x7_3).bind fun t163 => (if 1 + t163.size ≤ 9223372036854775807 then (if x5_8.size + t161.size + 1 + t163.size ≤ 9223372036854775807 then (ratio_Write.j4 k4 a0 x5_8 t157 x7_3 (f2i (fmul t157 (fofi t159))) x9_4 ((x5_8 ++ t161) ++ ((⟨#[46]⟩ : ByteArray) ++ t163))) else (none)) else (none))))) else (ratio_Write.j4 k4 a0 x5_8 t157 x7_3 (f2i (fmul t157 (fofi t159))) x9_4 (x5_8 ++ t161))) else (none)))) = some (r1, r2) := H
                              have A20 := Aside0.mk A200
                              clear A200
                              by_cases c21 : t160 = 0
                              · rw [if_pos c21] at H
                                exact absurd H (by simp)
                              · rw [if_neg c21] at H
                                have c21b0 : (t160 == 0) = false := beq_eq_false_iff_ne.mpr c21
                                have c21b1 : (t160 != 0) = true := bne_iff_ne.mpr c21
                                replace H := Option.bind_eq_some_iff.mp H
                                obtain ⟨t161, A220, H⟩ := H
                                replace H : (if x5_8.size + t161.size ≤ 9223372036854775807 then (if x7_3 > 0 then ((ratio_ten.f k4 x7_3).bind fun t162 => (if t162 = 0 then (none) else ((ratio_fill.f k4 (Int.tmod x9_4 t162) x7_3).bind fun t163 => (if 1 + t163.size ≤ 9223372036854775807 then (if x5_8.size + t161.size + 1 + t163.size ≤ 9223372036854775807 then (ratio_Write.j4 k4 a0 x5_8 t157 x7_3 (f2i (fmul t157 (fofi t159))) x9_4 ((x5_8 ++ t161) ++ ((⟨#[46]⟩ : ByteArray) ++ t163))) else (none)) else (none))))) else (ratio_Write.j4 k4 a0 x5_8 t157 x7_3 (f2i (fmul t157 (fofi t159))) x9_4 (x5_8 ++ t161))) else (none)) = some (r1, r2) := H
                                have A22 := Aside0.mk A220
                                clear A220
                                by_cases c23 : x5_8.size + t161.size ≤ 9223372036854775807
                                · rw [if_pos c23] at H
                                  have c23b0 := eq_true c23
                                  have c23b1 : decide (x5_8.size + t161.size ≤ 9223372036854775807) = true := decide_eq_true c23
                                  try have c23b2 : (9223372036854775807 < x5_8.size + t161.size) = False := eq_false (Nat.not_lt.2 c23)
                                  have HC24 := Aside0.mk H
                                  clear H
                                  go_upto_if 61 with (first | ((with_reducible refine gate_callee (f := 82) rfl ?_); refine goesL_ (some 56) rfl rfl Try.func82 (by kernel_rfl) rfl #[.int .i64 x7_3] rfl (by (try simp only [List.map_toArray, List.map_cons, List.map_nil]); first | done | rfl | (simp only [List.length_drop, List.length_take]; rfl)) ?_; (with_reducible refine (ratio_ten.calls k4 x7_3 t160 _ A20.out).mono ?_); rintro e w' ⟨rfl, ⟨nd, rfl⟩⟩; refine ⟨_, rfl, ?_⟩) | ((with_reducible refine gate_callee (f := 83) rfl ?_); refine goesL_ (some 58) rfl rfl Try.func83 (by kernel_rfl) rfl #[.int .i64 (wrap64 (Int.tdiv x9_4 t160))] rfl (by (try simp only [List.map_toArray, List.map_cons, List.map_nil]); first | done | rfl | (simp only [List.length_drop, List.length_take]; rfl)) ?_; (with_reducible refine (num_Digits.calls k4 (wrap64 (Int.tdiv x9_4 t160)) t161 _ A22.out).mono ?_); rintro e w25 ⟨rfl, hb⟩; refine ⟨_, rfl, ?_⟩; have n0_ := Aside0.mk (below_step (by repeat (first | (with_reducible first | exact HB.out | apply below_alloc | apply pw_below_drewN | apply below_drew1) | exact HB.out)) hb); clear HB; have HB := n0_; clear n0_; (try clear hb); (try clear hb2); (try clear hk); (try clear hi)))
                                  (try simp only [Act.put, List.setIfInBounds_toArray, List.set_cons_zero, List.set_cons_succ])
                                  go_cut [10] (fun v10 wc => ∃ (kq : Nat) (x10_23 : ByteArray), v10 = .string x10_23 ∧ Aside0 (ratio_Write.j4 kq a0 x5_8 t157 x7_3 (f2i (fmul t157 (fofi t159))) x9_4 x10_23 = some (r1, r2)) ∧ Aside0 (kq ≤ k4) ∧ Aside0 (Below w.heap.size w wc))
                                  case first =>
                                    have H := HC24.out
                                    clear HC24
                                    by_cases c26 : x7_3 > 0
                                    · rw [if_pos c26] at H
                                      have c26b0 : decide (0 < x7_3) = true := decide_eq_true c26
                                      clear c26
                                      (first | rw [c26b0] | (simp only [i64_w, i32_w]; rw [c26b0]) | skip)
                                      replace H := Option.bind_eq_some_iff.mp H
                                      obtain ⟨t162, A270, H⟩ := H
                                      replace H : (if t162 = 0 then (none) else ((ratio_fill.f k4 (Int.tmod x9_4 t162) x7_3).bind fun t163 => (if 1 + t163.size ≤ 9223372036854775807 then (if x5_8.size + t161.size + 1 + t163.size ≤ 9223372036854775807 then (ratio_Write.j4 k4 a0 x5_8 t157 x7_3 (f2i (fmul t157 (fofi t159))) x9_4 ((x5_8 ++ t161) ++ ((⟨#[46]⟩ : ByteArray) ++ t163))) else (none)) else (none)))) = some (r1, r2) := H
                                      have A27 := Aside0.mk A270
                                      clear A270
                                      by_cases c28 : t162 = 0
                                      · rw [if_pos c28] at H
                                        exact absurd H (by simp)
                                      · rw [if_neg c28] at H
                                        have c28b0 : (t162 == 0) = false := beq_eq_false_iff_ne.mpr c28
                                        have c28b1 : (t162 != 0) = true := bne_iff_ne.mpr c28
                                        replace H := Option.bind_eq_some_iff.mp H
                                        obtain ⟨t163, A290, H⟩ := H
                                        replace H : (if 1 + t163.size ≤ 9223372036854775807 then (if x5_8.size + t161.size + 1 + t163.size ≤ 9223372036854775807 then (ratio_Write.j4 k4 a0 x5_8 t157 x7_3 (f2i (fmul t157 (fofi t159))) x9_4 ((x5_8 ++ t161) ++ ((⟨#[46]⟩ : ByteArray) ++ t163))) else (none)) else (none)) = some (r1, r2) := H
                                        have A29 := Aside0.mk A290
                                        clear A290
                                        by_cases c30 : 1 + t163.size ≤ 9223372036854775807
                                        · rw [if_pos c30] at H
                                          have c30b0 := eq_true c30
                                          have c30b1 : decide (1 + t163.size ≤ 9223372036854775807) = true := decide_eq_true c30
                                          try have c30b2 : (9223372036854775807 < 1 + t163.size) = False := eq_false (Nat.not_lt.2 c30)
                                          by_cases c31 : x5_8.size + t161.size + 1 + t163.size ≤ 9223372036854775807
                                          · rw [if_pos c31] at H
                                            have c31b0 := eq_true c31
                                            have c31b1 : decide (x5_8.size + t161.size + 1 + t163.size ≤ 9223372036854775807) = true := decide_eq_true c31
                                            try have c31b2 : (9223372036854775807 < x5_8.size + t161.size + 1 + t163.size) = False := eq_false (Nat.not_lt.2 c31)
                                            have H' := Aside0.mk H
                                            clear H
                                            go_wp2_with (first | ((with_reducible refine gate_callee (f := 82) rfl ?_); refine goesL_ (some 65) rfl rfl Try.func82 (by kernel_rfl) rfl #[.int .i64 x7_3] rfl (by (try simp only [List.map_toArray, List.map_cons, List.map_nil]); first | done | rfl | (simp only [List.length_drop, List.length_take]; rfl)) ?_; (with_reducible refine (ratio_ten.calls k4 x7_3 t162 _ A27.out).mono ?_); rintro e w' ⟨rfl, ⟨nd, rfl⟩⟩; refine ⟨_, rfl, ?_⟩) | ((with_reducible refine gate_callee (f := 84) rfl ?_); refine goesL_ (some 68) rfl rfl Try.func84 (by kernel_rfl) rfl #[.int .i64 (Int.tmod x9_4 t162), .int .i64 x7_3] rfl (by (try simp only [List.map_toArray, List.map_cons, List.map_nil]); first | done | rfl | (simp only [List.length_drop, List.length_take]; rfl)) ?_; (with_reducible refine (ratio_fill.calls k4 (Int.tmod x9_4 t162) x7_3 t163 _ A29.out).mono ?_); rintro e w32 ⟨rfl, hb⟩; refine ⟨_, rfl, ?_⟩; have n0_ := Aside0.mk (below_step (by repeat (first | (with_reducible first | exact HB.out | apply below_alloc | apply pw_below_drewN | apply below_drew1) | exact HB.out)) hb); clear HB; have HB := n0_; clear n0_; (try clear hb); (try clear hb2); (try clear hk); (try clear hi)))
                                            go_meet
                                            case rel => exact ⟨_, ((x5_8 ++ t161) ++ ((⟨#[46]⟩ : ByteArray) ++ t163)), (by first | rfl | (simp; done) | (simp [*]; done)), H', ⟨by have := HJ2.out; have := HJ8.out; have := HK3.out; have := HK4.out; first | omega | exact Nat.le_refl _⟩, ⟨by repeat (first | (with_reducible first | exact HB.out | apply below_alloc | apply pw_below_drewN | apply below_drew1) | exact HB.out)⟩⟩
                                          · rw [if_neg c31] at H
                                            exact absurd H (by simp)
                                        · rw [if_neg c30] at H
                                          exact absurd H (by simp)
                                    · rw [if_neg c26] at H
                                      have c26b0 : decide (0 < x7_3) = false := decide_eq_false c26
                                      clear c26
                                      (first | rw [c26b0] | (simp only [i64_w, i32_w]; rw [c26b0]) | skip)
                                      have H' := Aside0.mk H
                                      clear H
                                      go_wp2
                                      go_meet
                                      case rel => exact ⟨_, (x5_8 ++ t161), (by first | rfl | (simp; done) | (simp [*]; done)), H', ⟨by have := HJ2.out; have := HJ8.out; have := HK3.out; have := HK4.out; first | omega | exact Nat.le_refl _⟩, ⟨by repeat (first | (with_reducible first | exact HB.out | apply below_alloc | apply pw_below_drewN | apply below_drew1) | exact HB.out)⟩⟩
                                  case rest =>
                                    clear HC24
                                    try clear c1
                                    try clear c2
                                    try clear p2
                                    try clear c3
                                    try clear c5
                                    try clear c5b0
                                    try clear c5b1
                                    try clear c6
                                    try clear c6b0
                                    try clear c6b1
                                    try clear p6
                                    try clear c7
                                    try clear c8
                                    try clear c10
                                    try clear c13
                                    try clear c13b0
                                    try clear c14
                                    try clear c14b0
                                    try clear c16
                                    try clear c16b0
                                    try clear c16b1
                                    try clear c17
                                    try clear c17b0
                                    try clear c17b1
                                    try clear c19
                                    try clear c19b0
                                    try clear c21
                                    try clear c21b0
                                    try clear c21b1
                                    try clear c23
                                    try clear c23b0
                                    try clear c23b1
                                    try clear c23b2
                                    try clear c26
                                    try clear c26b0
                                    try clear c28
                                    try clear c28b0
                                    try clear c28b1
                                    try clear c30
                                    try clear c30b0
                                    try clear c30b1
                                    try clear c30b2
                                    try clear c31
                                    try clear c31b0
                                    try clear c31b1
                                    try clear c31b2
                                    try clear p2
                                    try clear p6
                                    obtain ⟨kq, x10_23, rfl, HA, HJ23, HB⟩ := hcut
                                    cases kq with
                                    | zero => exact absurd HA.out (by simp [ratio_Write.j4])
                                    | succ kj23 =>
                                      have H := HA.out
                                      clear HA
                                      simp only [ratio_Write.j4] at H
                                      replace H := Option.bind_eq_some_iff.mp H
                                      obtain ⟨⟨t164, t165⟩, A330, H⟩ := H
                                      replace H : (if t165 = true then ((ratio_Same.f a0 t164).bind fun t166 => (if t166 = true then (some (x10_23, true)) else (ratio_Write.l1 kj23 a0 x5_8 t157 x7_3 (f2i (fmul t157 (fofi t159))) (wrap64 (x9_4 + 1))))) else (ratio_Write.l1 kj23 a0 x5_8 t157 x7_3 (f2i (fmul t157 (fofi t159))) (wrap64 (x9_4 + 1)))) = some (r1, r2) := H
                                      have A33 := Aside0.mk A330
                                      clear A330
                                      by_cases c34 : t165 = true
                                      · subst c34
                                        have H1 : ((ratio_Same.f a0 t164).bind fun t166 => (if t166 = true then (some (x10_23, true)) else (ratio_Write.l1 kj23 a0 x5_8 t157 x7_3 (f2i (fmul t157 (fofi t159))) (wrap64 (x9_4 + 1))))) = some (r1, r2) := by rw [if_pos rfl] at H; exact H
                                        clear H
                                        have H := H1
                                        clear H1
                                        replace H := Option.bind_eq_some_iff.mp H
                                        obtain ⟨t166, A350, H⟩ := H
                                        replace H : (if t166 = true then (some (x10_23, true)) else (ratio_Write.l1 kj23 a0 x5_8 t157 x7_3 (f2i (fmul t157 (fofi t159))) (wrap64 (x9_4 + 1)))) = some (r1, r2) := H
                                        have A35 := Aside0.mk A350
                                        clear A350
                                        by_cases c36 : t166 = true
                                        · subst c36
                                          have H1 : (some (x10_23, true)) = some (r1, r2) := by rw [if_pos rfl] at H; exact H
                                          clear H
                                          have H := H1
                                          clear H1
                                          simp only [Option.some.injEq, Prod.mk.injEq] at H
                                          obtain ⟨rfl, rfl⟩ := H
                                          go_wp2_with (first | ((with_reducible refine gate_callee (f := 85) rfl ?_); refine goesL_ (some 73) rfl rfl Try.func85 (by kernel_rfl) rfl #[.string x10_23] rfl (by (try simp only [List.map_toArray, List.map_cons, List.map_nil]); first | done | rfl | (simp only [List.length_drop, List.length_take]; rfl)) ?_; (with_reducible refine (ratio_Parse.calls kj23 x10_23 t164 true _ A33.out).mono ?_); rintro e w37 ⟨rfl, hb⟩; refine ⟨_, rfl, ?_⟩; have n0_ := Aside0.mk (below_step (by repeat (first | (with_reducible first | exact HB.out | apply below_alloc | apply pw_below_drewN | apply below_drew1) | exact HB.out)) hb); clear HB; have HB := n0_; clear n0_; (try clear hb); (try clear hb2); (try clear hk); (try clear hi)) | (go_at_call 66; (with_reducible refine (ratio_Same.calls a0 t164 true _ A35.out).mono ?_); rintro e w' ⟨rfl, ⟨nd, rfl⟩⟩))
                                          go_ret2
                                          exact ⟨by first | rfl | (simp [errW_none, errW_some] <;> rfl) | (simp only [← hji18]; first | rfl | (simp [errW_none, errW_some] <;> rfl)) | (simp [*, errW_none, errW_some] <;> rfl), by repeat (first | (with_reducible first | exact HB.out | apply below_alloc | apply pw_below_drewN | apply below_drew1) | exact HB.out)⟩
                                        · replace c36 := Bool.eq_false_iff.mpr c36
                                          subst c36
                                          have H1 : (ratio_Write.l1 kj23 a0 x5_8 t157 x7_3 (f2i (fmul t157 (fofi t159))) (wrap64 (x9_4 + 1))) = some (r1, r2) := by rw [if_neg (show ¬ (false = true) by decide)] at H; exact H
                                          clear H
                                          have H := H1
                                          clear H1
                                          have H' := Aside0.mk H
                                          clear H
                                          go_wp2_with (first | ((with_reducible refine gate_callee (f := 85) rfl ?_); refine goesL_ (some 73) rfl rfl Try.func85 (by kernel_rfl) rfl #[.string x10_23] rfl (by (try simp only [List.map_toArray, List.map_cons, List.map_nil]); first | done | rfl | (simp only [List.length_drop, List.length_take]; rfl)) ?_; (with_reducible refine (ratio_Parse.calls kj23 x10_23 t164 true _ A33.out).mono ?_); rintro e w38 ⟨rfl, hb⟩; refine ⟨_, rfl, ?_⟩; have n0_ := Aside0.mk (below_step (by repeat (first | (with_reducible first | exact HB.out | apply below_alloc | apply pw_below_drewN | apply below_drew1) | exact HB.out)) hb); clear HB; have HB := n0_; clear n0_; (try clear hb); (try clear hb2); (try clear hk); (try clear hi)) | (go_at_call 66; (with_reducible refine (ratio_Same.calls a0 t164 false _ A35.out).mono ?_); rintro e w' ⟨rfl, ⟨nd, rfl⟩⟩))
                                          go_roundg kj23
                                          case measure => have := HJ2.out; have := HJ8.out; have := HK3.out; have := HK4.out; have := HJ23.out; omega
                                          case rel => exact ⟨(wrap64 (x9_4 + 1)), (by first | rfl | (simp; done) | (simp [*]; done)), H', ⟨by have := HJ2.out; have := HJ8.out; have := HK3.out; have := HK4.out; have := HJ23.out; omega⟩, ⟨by repeat (first | (with_reducible first | exact HB.out | apply below_alloc | apply pw_below_drewN | apply below_drew1) | exact HB.out)⟩⟩
                                      · replace c34 := Bool.eq_false_iff.mpr c34
                                        subst c34
                                        have H1 : (ratio_Write.l1 kj23 a0 x5_8 t157 x7_3 (f2i (fmul t157 (fofi t159))) (wrap64 (x9_4 + 1))) = some (r1, r2) := by rw [if_neg (show ¬ (false = true) by decide)] at H; exact H
                                        clear H
                                        have H := H1
                                        clear H1
                                        have H' := Aside0.mk H
                                        clear H
                                        go_wp2_with (first | ((with_reducible refine gate_callee (f := 85) rfl ?_); refine goesL_ (some 73) rfl rfl Try.func85 (by kernel_rfl) rfl #[.string x10_23] rfl (by (try simp only [List.map_toArray, List.map_cons, List.map_nil]); first | done | rfl | (simp only [List.length_drop, List.length_take]; rfl)) ?_; (with_reducible refine (ratio_Parse.calls kj23 x10_23 t164 false _ A33.out).mono ?_); rintro e w39 ⟨rfl, hb⟩; refine ⟨_, rfl, ?_⟩; have n0_ := Aside0.mk (below_step (by repeat (first | (with_reducible first | exact HB.out | apply below_alloc | apply pw_below_drewN | apply below_drew1) | exact HB.out)) hb); clear HB; have HB := n0_; clear n0_; (try clear hb); (try clear hb2); (try clear hk); (try clear hi)))
                                        go_roundg kj23
                                        case measure => have := HJ2.out; have := HJ8.out; have := HK3.out; have := HK4.out; have := HJ23.out; omega
                                        case rel => exact ⟨(wrap64 (x9_4 + 1)), (by first | rfl | (simp; done) | (simp [*]; done)), H', ⟨by have := HJ2.out; have := HJ8.out; have := HK3.out; have := HK4.out; have := HJ23.out; omega⟩, ⟨by repeat (first | (with_reducible first | exact HB.out | apply below_alloc | apply pw_below_drewN | apply below_drew1) | exact HB.out)⟩⟩
                                · rw [if_neg c23] at H
                                  exact absurd H (by simp)
                            · rw [if_neg c19] at H
                              have c19b0 : decide (x9_4 ≤ (wrap64 ((f2i (fmul t157 (fofi t159))) + 1))) = false := decide_eq_false c19
                              clear c19
                              have H' := Aside0.mk H
                              clear H
                              go_wp2
                              go_roundg k4
                              case measure => have := HJ2.out; have := HJ8.out; have := HK3.out; have := HK4.out; omega
                              case rel => exact ⟨(wrap64 (x7_3 + 1)), (by first | rfl | (simp; done) | (simp [*]; done)), H', ⟨by have := HJ2.out; have := HJ8.out; have := HK3.out; have := HK4.out; omega⟩, ⟨by repeat (first | (with_reducible first | exact HB.out | apply below_alloc | apply pw_below_drewN | apply below_drew1) | exact HB.out)⟩⟩
                      · rw [if_neg c17] at H
                        exact absurd H (by simp)
                    · rw [if_neg c16] at H
                      exact absurd H (by simp)
                  · rw [if_neg c14] at H
                    have c14b0 : decide (x7_3 ≤ 6) = false := decide_eq_false c14
                    clear c14
                    simp only [Option.some.injEq, Prod.mk.injEq] at H
                    obtain ⟨rfl, rfl⟩ := H
                    go_wp2
                    go_ret2
                    exact ⟨by first | rfl | (simp [errW_none, errW_some] <;> rfl) | (simp [*, errW_none, errW_some] <;> rfl), by repeat (first | (with_reducible first | exact HB.out | apply below_alloc | apply pw_below_drewN | apply below_drew1) | exact HB.out)⟩
def rule_near.f (k : Nat) (a0 : Nat) : Option (Bool) := (ratio_Write.f k a0).bind fun bt167 => (if bt167.2 = true then ((ratio_Order.f a0 0).bind fun t169 => (if t169 ≥ 0 then ((ratio_Order.f a0 4607182418800017408).bind fun t170 => (some (decide (t170 ≤ 0)))) else (some false))) else (some false))
set_option maxHeartbeats 8000000 in
set_option maxRecDepth 100000 in
theorem rule_near.calls (k : Nat) (a0 : Nat) (r : Bool) (w : World) (h : rule_near.f k a0 = some r) :
    Calls Try.prog 65 #[.float .f64 a0] w fun e w' => e = .returned (.bool r) ∧ Below w.heap.size w w' := by
  have HB := Aside0.mk (Below.refl w.heap.size w)
  have H : ((ratio_Write.f k a0).bind fun bt167 => (if bt167.2 = true then ((ratio_Order.f a0 0).bind fun t169 => (if t169 ≥ 0 then ((ratio_Order.f a0 4607182418800017408).bind fun t170 => (some (decide (t170 ≤ 0)))) else (some false))) else (some false))) = some r := h
  clear h
  replace H := Option.bind_eq_some_iff.mp H
  obtain ⟨⟨t167, t168⟩, A20, H⟩ := H
  replace H : (if t168 = true then ((ratio_Order.f a0 0).bind fun t169 => (if t169 ≥ 0 then ((ratio_Order.f a0 4607182418800017408).bind fun t170 => (some (decide (t170 ≤ 0)))) else (some false))) else (some false)) = some r := H
  have A2 := Aside0.mk A20
  clear A20
  by_cases c3 : t168 = true
  · subst c3
    have H1 : ((ratio_Order.f a0 0).bind fun t169 => (if t169 ≥ 0 then ((ratio_Order.f a0 4607182418800017408).bind fun t170 => (some (decide (t170 ≤ 0)))) else (some false))) = some r := by rw [if_pos rfl] at H; exact H
    clear H
    have H := H1
    clear H1
    replace H := Option.bind_eq_some_iff.mp H
    obtain ⟨t169, A40, H⟩ := H
    replace H : (if t169 ≥ 0 then ((ratio_Order.f a0 4607182418800017408).bind fun t170 => (some (decide (t170 ≤ 0)))) else (some false)) = some r := H
    have A4 := Aside0.mk A40
    clear A40
    by_cases c5 : t169 ≥ 0
    · rw [if_pos c5] at H
      have c5b0 : decide (0 ≤ t169) = true := decide_eq_true c5
      clear c5
      replace H := Option.bind_eq_some_iff.mp H
      obtain ⟨t170, A60, H⟩ := H
      replace H : (some (decide (t170 ≤ 0))) = some r := H
      have A6 := Aside0.mk A60
      clear A60
      obtain rfl := Option.some.inj H
      go_enter Try.func65, Try.ntmps65
      go_wp2_with (first | ((with_reducible refine gate_callee (f := 75) rfl ?_); refine goesL_ (some 7) rfl rfl Try.func75 (by kernel_rfl) rfl #[.float .f64 a0] rfl (by (try simp only [List.map_toArray, List.map_cons, List.map_nil]); first | done | rfl | (simp only [List.length_drop, List.length_take]; rfl)) ?_; (with_reducible refine (ratio_Write.calls k a0 t167 true _ A2.out).mono ?_); rintro e w7 ⟨rfl, hb⟩; refine ⟨_, rfl, ?_⟩; have n0_ := Aside0.mk (below_step (by repeat (first | (with_reducible first | exact HB.out | apply below_alloc | apply pw_below_drewN | apply below_drew1) | exact HB.out)) hb); clear HB; have HB := n0_; clear n0_; (try clear hb); (try clear hb2); (try clear hk); (try clear hi)) | (go_at_call 76; (with_reducible refine (ratio_Order.calls a0 0 t169 _ A4.out).mono ?_); rintro e w' ⟨rfl, ⟨nd, rfl⟩⟩) | (go_at_call 76; (with_reducible refine (ratio_Order.calls a0 4607182418800017408 t170 _ A6.out).mono ?_); rintro e w' ⟨rfl, ⟨nd, rfl⟩⟩))
      go_ret
      exact ⟨by first | rfl | (simp [errW_none, errW_some] <;> rfl) | (simp [*, errW_none, errW_some] <;> rfl), by repeat (first | (with_reducible first | exact HB.out | apply below_alloc | apply pw_below_drewN | apply below_drew1) | exact HB.out)⟩
    · rw [if_neg c5] at H
      have c5b0 : decide (0 ≤ t169) = false := decide_eq_false c5
      clear c5
      obtain rfl := Option.some.inj H
      go_enter Try.func65, Try.ntmps65
      go_wp2_with (first | ((with_reducible refine gate_callee (f := 75) rfl ?_); refine goesL_ (some 7) rfl rfl Try.func75 (by kernel_rfl) rfl #[.float .f64 a0] rfl (by (try simp only [List.map_toArray, List.map_cons, List.map_nil]); first | done | rfl | (simp only [List.length_drop, List.length_take]; rfl)) ?_; (with_reducible refine (ratio_Write.calls k a0 t167 true _ A2.out).mono ?_); rintro e w8 ⟨rfl, hb⟩; refine ⟨_, rfl, ?_⟩; have n0_ := Aside0.mk (below_step (by repeat (first | (with_reducible first | exact HB.out | apply below_alloc | apply pw_below_drewN | apply below_drew1) | exact HB.out)) hb); clear HB; have HB := n0_; clear n0_; (try clear hb); (try clear hb2); (try clear hk); (try clear hi)) | (go_at_call 76; (with_reducible refine (ratio_Order.calls a0 0 t169 _ A4.out).mono ?_); rintro e w' ⟨rfl, ⟨nd, rfl⟩⟩))
      go_ret
      exact ⟨by first | rfl | (simp [errW_none, errW_some] <;> rfl) | (simp [*, errW_none, errW_some] <;> rfl), by repeat (first | (with_reducible first | exact HB.out | apply below_alloc | apply pw_below_drewN | apply below_drew1) | exact HB.out)⟩
  · replace c3 := Bool.eq_false_iff.mpr c3
    subst c3
    have H1 : (some false) = some r := by rw [if_neg (show ¬ (false = true) by decide)] at H; exact H
    clear H
    have H := H1
    clear H1
    obtain rfl := Option.some.inj H
    go_enter Try.func65, Try.ntmps65
    go_wp2_with (first | ((with_reducible refine gate_callee (f := 75) rfl ?_); refine goesL_ (some 7) rfl rfl Try.func75 (by kernel_rfl) rfl #[.float .f64 a0] rfl (by (try simp only [List.map_toArray, List.map_cons, List.map_nil]); first | done | rfl | (simp only [List.length_drop, List.length_take]; rfl)) ?_; (with_reducible refine (ratio_Write.calls k a0 t167 false _ A2.out).mono ?_); rintro e w9 ⟨rfl, hb⟩; refine ⟨_, rfl, ?_⟩; have n0_ := Aside0.mk (below_step (by repeat (first | (with_reducible first | exact HB.out | apply below_alloc | apply pw_below_drewN | apply below_drew1) | exact HB.out)) hb); clear HB; have HB := n0_; clear n0_; (try clear hb); (try clear hb2); (try clear hk); (try clear hi)))
    go_ret
    exact ⟨by first | rfl | (simp [errW_none, errW_some] <;> rfl) | (simp [*, errW_none, errW_some] <;> rfl), by repeat (first | (with_reducible first | exact HB.out | apply below_alloc | apply pw_below_drewN | apply below_drew1) | exact HB.out)⟩
end Go.Proofs.Ytipbigdpannlcaa.PTrieFits
