/- What the law TrieFits uses, thinned: printed by shake2.py. -/
import Derived.Test.YtipbigdpannlcaaTTrieFitsPTrieFitsx0
import Derived.Test.YtipbigdpannlcaaTTrieFitsPTrieFitsx2
import Derived.Test.YtipbigdpannlcaaTTrieFitsPTrieFitsx8
namespace Go.Proofs.Ytipbigdpannlcaa.PTrieFits
open Go.RowKit Go.Proofs.YtipbigdpannlcaaW.PrintWords Go.Proofs.YtipbigdpannlcaaW.PrintLast Go.Proofs.YtipbigdpannlcaaW.PrintMore
attribute [local go_sem] max2_int min2_int max_two min_two max_three min_three max_four min_four
set_option linter.unusedVariables false
set_option linter.unusedSimpArgs false
mutual
def turncockref1_Read.j0 : Nat → ByteArray → Int → Int → Int → Bool → Option (Nat × Bool)
  | 0, _, _, _, _, _ => none
  | k + 1, x0, x4, x5, x6, x25 => if x25 = true then (turncockref1_Read.j1 k x0 1 x5 x6) else (turncockref1_Read.j1 k x0 x4 x5 x6)
def turncockref1_Read.j1 : Nat → ByteArray → Int → Int → Int → Option (Nat × Bool)
  | 0, _, _, _, _ => none
  | k + 1, x0, x4, x5, x6 => turncockref1_Read.l0 k x0 x4 x5 x6 x4
def turncockref1_Read.j3 : Nat → ByteArray → Int → Int → Int → Int → Option (Nat × Bool)
  | 0, _, _, _, _, _ => none
  | k + 1, x0, x4, x5, x6, x7 => if x4 = x7 then (turncockref1_Read.j4 k x0 x4 x5 x6 x7 true) else (if (wrap64 (x4 - x7)) > 1 then (if 0 ≤ x7 then (if x7 < (x0.size : Int) then (turncockref1_Read.j4 k x0 x4 x5 x6 x7 ((bt x0 x7) == 48)) else (none)) else (none)) else (turncockref1_Read.j4 k x0 x4 x5 x6 x7 false))
def turncockref1_Read.j4 : Nat → ByteArray → Int → Int → Int → Int → Bool → Option (Nat × Bool)
  | 0, _, _, _, _, _, _ => none
  | k + 1, x0, x4, x5, x6, x7, x67 => if x67 = true then (some (0, false)) else (if x4 < (x0.size : Int) then (if 0 ≤ x4 then (if (bt x0 x4) = 46 then (turncockref1_Read.l1 k x0 (wrap64 (x4 + 1)) x5 x6 x7) else (some (0, false))) else (none)) else (turncockref1_Read.j6 k x0 x4 x5 x6 x7))
def turncockref1_Read.j6 : Nat → ByteArray → Int → Int → Int → Int → Option (Nat × Bool)
  | 0, _, _, _, _, _ => none
  | k + 1, x0, x4, x5, x6, x7 => if x4 < (x0.size : Int) then (some (0, false)) else ((turncockref1_ten.f k x6).bind fun t246 => (if (fquoOk (fofi x5) (fofi t246)) = true then (if x7 = 1 then (some (fneg (fquo (fofi x5) (fofi t246)), true)) else (some (fquo (fofi x5) (fofi t246), true))) else (none)))
def turncockref1_Read.l1 : Nat → ByteArray → Int → Int → Int → Int → Option (Nat × Bool)
  | 0, _, _, _, _, _ => none
  | k + 1, x0, x4, x5, x6, x7 => if x4 < (x0.size : Int) then (if 0 ≤ x4 then ((turncockref1_digit.f (bt x0 x4)).bind fun t245 => (if t245 = true then (if x6 < 6 then (turncockref1_Read.l1 k x0 (wrap64 (x4 + 1)) (wrap64 ((wrap64 (x5 * 10)) + (((bt x0 x4) - 48) % 256))) (wrap64 (x6 + 1)) x7) else (if x6 = 0 then (some (0, false)) else (turncockref1_Read.j6 k x0 x4 x5 x6 x7))) else (if x6 = 0 then (some (0, false)) else (turncockref1_Read.j6 k x0 x4 x5 x6 x7)))) else (none)) else (if x6 = 0 then (some (0, false)) else (turncockref1_Read.j6 k x0 x4 x5 x6 x7))
def turncockref1_Read.l0 : Nat → ByteArray → Int → Int → Int → Int → Option (Nat × Bool)
  | 0, _, _, _, _, _ => none
  | k + 1, x0, x4, x5, x6, x7 => if x4 < (x0.size : Int) then (if 0 ≤ x4 then ((turncockref1_digit.f (bt x0 x4)).bind fun t244 => (if t244 = true then (if (wrap64 (x4 - x7)) < 9 then (turncockref1_Read.l0 k x0 (wrap64 (x4 + 1)) (wrap64 ((wrap64 (x5 * 10)) + (((bt x0 x4) - 48) % 256))) x6 x7) else (turncockref1_Read.j3 k x0 x4 x5 x6 x7)) else (turncockref1_Read.j3 k x0 x4 x5 x6 x7))) else (none)) else (turncockref1_Read.j3 k x0 x4 x5 x6 x7)
end
def turncockref1_Read.f (k : Nat) (a0 : ByteArray) : Option (Nat × Bool) := if a0.toList = ([110, 97, 110] : List UInt8) then ((math_NaN.f).bind fun t241 => (some (t241, true))) else (if a0.toList = ([105, 110, 102] : List UInt8) then ((math_Inf.f 1).bind fun t242 => (some (t242, true))) else (if a0.toList = ([45, 105, 110, 102] : List UInt8) then ((math_Inf.f (-1)).bind fun t243 => (some (t243, true))) else (if (a0.size : Int) > 0 then (if 0 < (a0.size : Int) then (turncockref1_Read.j0 k a0 0 0 0 ((bt a0 0) == 45)) else (none)) else (turncockref1_Read.j0 k a0 0 0 0 false))))
set_option maxHeartbeats 8000000 in
set_option maxRecDepth 100000 in
theorem turncockref1_Read.calls (k : Nat) (a0 : ByteArray) (r1 : Nat) (r2 : Bool) (w : World) (h : turncockref1_Read.f k a0 = some (r1, r2)) :
    Calls Try.prog 42 #[.string a0] w fun e w' => e = .returned (.tuple #[.float .f64 r1, .bool r2]) ∧ Drawn0 w w' := by
  have H : (if a0.toList = ([110, 97, 110] : List UInt8) then ((math_NaN.f).bind fun t241 => (some (t241, true))) else (if a0.toList = ([105, 110, 102] : List UInt8) then ((math_Inf.f 1).bind fun t242 => (some (t242, true))) else (if a0.toList = ([45, 105, 110, 102] : List UInt8) then ((math_Inf.f (-1)).bind fun t243 => (some (t243, true))) else (if (a0.size : Int) > 0 then (if 0 < (a0.size : Int) then (turncockref1_Read.j0 k a0 0 0 0 ((bt a0 0) == 45)) else (none)) else (turncockref1_Read.j0 k a0 0 0 0 false))))) = some (r1, r2) := h
  clear h
  by_cases c2 : a0.toList = ([110, 97, 110] : List UInt8)
  · rw [if_pos c2] at H
    have c2b0 : (a0.toList == ([110, 97, 110] : List UInt8)) = true := beq_iff_eq.mpr c2
    have c2b1 : (a0.toList != ([110, 97, 110] : List UInt8)) = false := bne_eq_false_iff_eq.mpr c2
    clear c2
    replace H := Option.bind_eq_some_iff.mp H
    obtain ⟨t241, A30, H⟩ := H
    replace H : (some (t241, true)) = some (r1, r2) := H
    have A3 := Aside0.mk A30
    clear A30
    simp only [Option.some.injEq, Prod.mk.injEq] at H
    obtain ⟨rfl, rfl⟩ := H
    go_enter Try.func42, Try.ntmps42
    go_wp2_with (first | ((with_reducible refine gate_callee (f := 51) rfl ?_); refine goesL_ (some 11) rfl rfl Try.func51 (by kernel_rfl) rfl #[] rfl (by (try simp only [List.map_toArray, List.map_cons, List.map_nil]); first | done | rfl | (simp only [List.length_drop, List.length_take]; rfl)) ?_; (with_reducible refine (math_NaN.calls  t241 _ A3.out).mono ?_); rintro e w' ⟨rfl, ⟨nd, rfl⟩⟩; refine ⟨_, rfl, ?_⟩))
    go_ret2
    exact ⟨by first | rfl | (simp; done) | (simp [*]; done), by repeat (first | exact Drawn0.refl _ | apply Drawn0.step)⟩
  · rw [if_neg c2] at H
    have c2b0 : (a0.toList == ([110, 97, 110] : List UInt8)) = false := beq_eq_false_iff_ne.mpr c2
    have c2b1 : (a0.toList != ([110, 97, 110] : List UInt8)) = true := bne_iff_ne.mpr c2
    by_cases c4 : a0.toList = ([105, 110, 102] : List UInt8)
    · rw [if_pos c4] at H
      have c4b0 : (a0.toList == ([105, 110, 102] : List UInt8)) = true := beq_iff_eq.mpr c4
      have c4b1 : (a0.toList != ([105, 110, 102] : List UInt8)) = false := bne_eq_false_iff_eq.mpr c4
      clear c4
      replace H := Option.bind_eq_some_iff.mp H
      obtain ⟨t242, A50, H⟩ := H
      replace H : (some (t242, true)) = some (r1, r2) := H
      have A5 := Aside0.mk A50
      clear A50
      simp only [Option.some.injEq, Prod.mk.injEq] at H
      obtain ⟨rfl, rfl⟩ := H
      go_enter Try.func42, Try.ntmps42
      go_wp2_with (first | ((with_reducible refine gate_callee (f := 52) rfl ?_); refine goesL_ (some 14) rfl rfl Try.func52 (by kernel_rfl) rfl #[.int .i64 1] rfl (by (try simp only [List.map_toArray, List.map_cons, List.map_nil]); first | done | rfl | (simp only [List.length_drop, List.length_take]; rfl)) ?_; (with_reducible refine (math_Inf.calls 1 t242 _ A5.out).mono ?_); rintro e w' ⟨rfl, ⟨nd, rfl⟩⟩; refine ⟨_, rfl, ?_⟩))
      go_ret2
      exact ⟨by first | rfl | (simp; done) | (simp [*]; done), by repeat (first | exact Drawn0.refl _ | apply Drawn0.step)⟩
    · rw [if_neg c4] at H
      have c4b0 : (a0.toList == ([105, 110, 102] : List UInt8)) = false := beq_eq_false_iff_ne.mpr c4
      have c4b1 : (a0.toList != ([105, 110, 102] : List UInt8)) = true := bne_iff_ne.mpr c4
      by_cases c6 : a0.toList = ([45, 105, 110, 102] : List UInt8)
      · rw [if_pos c6] at H
        have c6b0 : (a0.toList == ([45, 105, 110, 102] : List UInt8)) = true := beq_iff_eq.mpr c6
        have c6b1 : (a0.toList != ([45, 105, 110, 102] : List UInt8)) = false := bne_eq_false_iff_eq.mpr c6
        clear c6
        replace H := Option.bind_eq_some_iff.mp H
        obtain ⟨t243, A70, H⟩ := H
        replace H : (some (t243, true)) = some (r1, r2) := H
        have A7 := Aside0.mk A70
        clear A70
        simp only [Option.some.injEq, Prod.mk.injEq] at H
        obtain ⟨rfl, rfl⟩ := H
        go_enter Try.func42, Try.ntmps42
        go_wp2_with (first | ((with_reducible refine gate_callee (f := 52) rfl ?_); refine goesL_ (some 17) rfl rfl Try.func52 (by kernel_rfl) rfl #[.int .i64 (-1)] rfl (by (try simp only [List.map_toArray, List.map_cons, List.map_nil]); first | done | rfl | (simp only [List.length_drop, List.length_take]; rfl)) ?_; (with_reducible refine (math_Inf.calls (-1) t243 _ A7.out).mono ?_); rintro e w' ⟨rfl, ⟨nd, rfl⟩⟩; refine ⟨_, rfl, ?_⟩))
        go_ret2
        exact ⟨by first | rfl | (simp; done) | (simp [*]; done), by repeat (first | exact Drawn0.refl _ | apply Drawn0.step)⟩
      · rw [if_neg c6] at H
        have c6b0 : (a0.toList == ([45, 105, 110, 102] : List UInt8)) = false := beq_eq_false_iff_ne.mpr c6
        have c6b1 : (a0.toList != ([45, 105, 110, 102] : List UInt8)) = true := bne_iff_ne.mpr c6
        have HC8 := Aside0.mk H
        clear H
        go_enter Try.func42, Try.ntmps42
        go_upto_region 8 with (fail)
        go_cut [25] (fun v25 wc => ∃ (kq : Nat) (x25_7 : Bool), v25 = .bool x25_7 ∧ Aside0 (turncockref1_Read.j0 kq a0 0 0 0 x25_7 = some (r1, r2)) ∧ Aside0 (kq ≤ k) ∧ Drawn0 w wc)
        case first =>
          have H := HC8.out
          clear HC8
          by_cases c9 : (a0.size : Int) > 0
          · rw [if_pos c9] at H
            have c9b0 : decide (0 < (a0.size : Int)) = true := decide_eq_true c9
            have c9b1 : decide (0 < a0.size) = true := decide_eq_true (by omega)
            clear c9
            (first | rw [c9b0] | (simp only [i64_w, i32_w]; rw [c9b0]) | skip)
            by_cases c10 : 0 < (a0.size : Int)
            · rw [if_pos c10] at H
              have c10b0 : decide (0 < (a0.size : Int)) = true := decide_eq_true c10
              have c10b1 : decide (0 < a0.size) = true := decide_eq_true (by omega)
              clear c10
              have H' := Aside0.mk H
              clear H
              have p11 : 0 ≤ (0 : Int) := (by omega)
              have q11 : 0 < a0.size := (by have : (0 : Int) < (a0.size : Int) := of_decide_eq_true (by first | (with_reducible assumption) | assumption); omega)
              have hx11 : ∀ h : 0 < a0.size, ((a0[0]'h).toNat : Int) = bt a0 0 := bt_at a0 0
              clear p11
              have qi11 : (0 < (a0.size : Int)) = True := eq_true (of_decide_eq_true (by first | (with_reducible assumption) | assumption))
              replace q11 := eq_true q11
              go_wp2
              go_meet
              case rel => exact ⟨_, (((bt a0 0) == 45)), (by first | rfl | (simp; done) | (simp [*]; done)), H', ⟨by first | omega | exact Nat.le_refl _⟩, by repeat (first | exact Drawn0.refl _ | apply Drawn0.step)⟩
            · rw [if_neg c10] at H
              exact absurd H (by simp)
          · rw [if_neg c9] at H
            have c9b0 : decide (0 < (a0.size : Int)) = false := decide_eq_false c9
            have c9b1 : decide (0 < a0.size) = false := decide_eq_false (by omega)
            clear c9
            (first | rw [c9b0] | (simp only [i64_w, i32_w]; rw [c9b0]) | skip)
            have H' := Aside0.mk H
            clear H
            go_wp2
            go_meet
            case rel => exact ⟨_, (false), (by first | rfl | (simp; done) | (simp [*]; done)), H', ⟨by first | omega | exact Nat.le_refl _⟩, by repeat (first | exact Drawn0.refl _ | apply Drawn0.step)⟩
        case rest =>
          clear HC8
          try clear c1
          try clear p1
          try clear q1
          try clear hx1
          try clear qi1
          try clear c2
          try clear c2b0
          try clear c2b1
          try clear p2
          try clear c4
          try clear c4b0
          try clear c4b1
          try clear c5
          try clear c6
          try clear c6b0
          try clear c6b1
          try clear c9
          try clear c9b0
          try clear c9b1
          try clear c10
          try clear c10b0
          try clear c10b1
          try clear p11
          try clear q11
          try clear hx11
          try clear qi11
          try clear p11
          try clear q11
          obtain ⟨kq, x25_7, rfl, HA, HJ7, ⟨mc7, rfl⟩⟩ := hcut
          cases kq with
          | zero => exact absurd HA.out (by simp [turncockref1_Read.j0])
          | succ kj7 =>
            have H := HA.out
            clear HA
            simp only [turncockref1_Read.j0] at H
            have HC12 := Aside0.mk H
            clear H
            go_upto_if 25 with (fail)
            go_cut [4] (fun v4 wc => ∃ (kq : Nat) (x4_11 : Int), v4 = .int .i64 x4_11 ∧ Aside0 (turncockref1_Read.j1 kq a0 x4_11 0 0 = some (r1, r2)) ∧ Aside0 (kq ≤ kj7) ∧ Drawn0 w wc)
            case first =>
              have H := HC12.out
              clear HC12
              by_cases c13 : x25_7 = true
              · subst c13
                have H1 : (turncockref1_Read.j1 kj7 a0 1 0 0) = some (r1, r2) := by rw [if_pos rfl] at H; exact H
                clear H
                have H := H1
                clear H1
                have H' := Aside0.mk H
                clear H
                go_wp2
                go_meet
                case rel => exact ⟨_, (1), (by first | rfl | (simp; done) | (simp [*]; done)), H', ⟨by have := HJ7.out; first | omega | exact Nat.le_refl _⟩, by repeat (first | exact Drawn0.refl _ | apply Drawn0.step)⟩
              · replace c13 := Bool.eq_false_iff.mpr c13
                subst c13
                have H1 : (turncockref1_Read.j1 kj7 a0 0 0 0) = some (r1, r2) := by rw [if_neg (show ¬ (false = true) by decide)] at H; exact H
                clear H
                have H := H1
                clear H1
                have H' := Aside0.mk H
                clear H
                go_wp2
                go_meet
                case rel => exact ⟨_, (0), (by first | rfl | (simp; done) | (simp [*]; done)), H', ⟨by have := HJ7.out; first | omega | exact Nat.le_refl _⟩, by repeat (first | exact Drawn0.refl _ | apply Drawn0.step)⟩
            case rest =>
              clear HC12
              try clear c1
              try clear p1
              try clear q1
              try clear hx1
              try clear qi1
              try clear c2
              try clear c2b0
              try clear c2b1
              try clear p2
              try clear c4
              try clear c4b0
              try clear c4b1
              try clear c5
              try clear c6
              try clear c6b0
              try clear c6b1
              try clear c7
              try clear c9
              try clear c9b0
              try clear c9b1
              try clear c10
              try clear c10b0
              try clear c10b1
              try clear p11
              try clear q11
              try clear hx11
              try clear qi11
              try clear c13
              try clear p1
              try clear p11
              try clear p2
              try clear q1
              try clear q11
              obtain ⟨kq, x4_11, rfl, HA, HJ11, ⟨mc11, rfl⟩⟩ := hcut
              cases kq with
              | zero => exact absurd HA.out (by simp [turncockref1_Read.j1])
              | succ kj11 =>
                have H := HA.out
                clear HA
                simp only [turncockref1_Read.j1] at H
                have HC14 := Aside0.mk H
                clear H
                go_upto_block 0 with (fail)
                go_cut [4, 5] (fun v4 v5 wc => ∃ (kq : Nat) (x4_13 : Int) (x5_13 : Int), v4 = .int .i64 x4_13 ∧ v5 = .int .i64 x5_13 ∧ Aside0 (turncockref1_Read.j3 kq a0 x4_13 x5_13 0 x4_11 = some (r1, r2)) ∧ Aside0 (kq ≤ kj11) ∧ Drawn0 w wc)
                case first =>
                  have H := HC14.out
                  clear HC14
                  have H' := Aside0.mk H
                  clear H
                  go_wp2
                  go_loopg [4, 5] kj11 (fun kq v4 v5 w' => ∃ (x4_3 : Int) (x5_3 : Int), v4 = .int .i64 x4_3 ∧ v5 = .int .i64 x5_3 ∧ Aside0 (turncockref1_Read.l0 kq a0 x4_3 x5_3 0 x4_11 = some (r1, r2)) ∧ Aside0 (kq ≤ kj11) ∧ Drawn0 w w')
                  case atStart => exact ⟨(x4_11), (0), (by first | rfl | (simp; done) | (simp [*]; done)), (by first | rfl | (simp; done) | (simp [*]; done)), H', ⟨Nat.le_refl _⟩, by repeat (first | exact Drawn0.refl _ | apply Drawn0.step)⟩
                  case round =>
                    clear H'
                    try clear c1
                    try clear p1
                    try clear q1
                    try clear hx1
                    try clear qi1
                    try clear c2
                    try clear c2b0
                    try clear c2b1
                    try clear p2
                    try clear c4
                    try clear c4b0
                    try clear c4b1
                    try clear c5
                    try clear c6
                    try clear c6b0
                    try clear c6b1
                    try clear c7
                    try clear c9
                    try clear c9b0
                    try clear c9b1
                    try clear c10
                    try clear c10b0
                    try clear c10b1
                    try clear c11
                    try clear p11
                    try clear q11
                    try clear hx11
                    try clear qi11
                    try clear c13
                    try clear p1
                    try clear p11
                    try clear p2
                    try clear q1
                    try clear q11
                    obtain ⟨x4_3, x5_3, rfl, rfl, HA, HK3, ⟨m3, rfl⟩⟩ := hrel
                    cases gk with
                    | zero => exact absurd HA.out (by simp [turncockref1_Read.l0])
                    | succ k3 =>
                      have H := HA.out
                      clear HA
                      simp only [turncockref1_Read.l0] at H
                      by_cases c15 : x4_3 < (a0.size : Int)
                      · rw [if_pos c15] at H
                        have c15b0 : decide (x4_3 < (a0.size : Int)) = true := decide_eq_true c15
                        clear c15
                        (first | rw [c15b0] | (simp only [i64_w, i32_w]; rw [c15b0]) | skip)
                        by_cases c16 : 0 ≤ x4_3
                        · rw [if_pos c16] at H
                          have c16b0 : decide (0 ≤ x4_3) = true := decide_eq_true c16
                          clear c16
                          replace H := Option.bind_eq_some_iff.mp H
                          obtain ⟨t244, A180, H⟩ := H
                          replace H : (if t244 = true then (if (wrap64 (x4_3 - x4_11)) < 9 then (turncockref1_Read.l0 k3 a0 (wrap64 (x4_3 + 1)) (wrap64 ((wrap64 (x5_3 * 10)) + (((bt a0 x4_3) - 48) % 256))) 0 x4_11) else (turncockref1_Read.j3 k3 a0 x4_3 x5_3 0 x4_11)) else (turncockref1_Read.j3 k3 a0 x4_3 x5_3 0 x4_11)) = some (r1, r2) := H
                          have A18 := Aside0.mk A180
                          clear A180
                          by_cases c19 : t244 = true
                          · subst c19
                            have H1 : (if (wrap64 (x4_3 - x4_11)) < 9 then (turncockref1_Read.l0 k3 a0 (wrap64 (x4_3 + 1)) (wrap64 ((wrap64 (x5_3 * 10)) + (((bt a0 x4_3) - 48) % 256))) 0 x4_11) else (turncockref1_Read.j3 k3 a0 x4_3 x5_3 0 x4_11)) = some (r1, r2) := by rw [if_pos rfl] at H; exact H
                            clear H
                            have H := H1
                            clear H1
                            by_cases c20 : (wrap64 (x4_3 - x4_11)) < 9
                            · rw [if_pos c20] at H
                              have c20b0 : decide ((wrap64 (x4_3 - x4_11)) < 9) = true := decide_eq_true c20
                              clear c20
                              have H' := Aside0.mk H
                              clear H
                              have p17 : 0 ≤ (x4_3 : Int) := of_decide_eq_true (by first | (with_reducible assumption) | assumption)
                              have q17 : x4_3 < (a0.size : Int) := of_decide_eq_true (by first | (with_reducible assumption) | assumption)
                              have hx17 := bt_at a0 x4_3
                              replace p17 := eq_true p17
                              replace q17 := eq_true q17
                              go_wp2_with (first | (go_at_call 29; (with_reducible refine (turncockref1_digit.calls (bt a0 x4_3) true _ A18.out).mono ?_); rintro e w' ⟨rfl, ⟨nd, rfl⟩⟩; have p21 : 0 ≤ (x4_3 : Int) := of_decide_eq_true (by first | (with_reducible assumption) | assumption); have q21 : x4_3 < (a0.size : Int) := of_decide_eq_true (by first | (with_reducible assumption) | assumption); have hx21 := bt_at a0 x4_3; replace p21 := eq_true p21; replace q21 := eq_true q21))
                              go_roundg k3
                              case measure => have := HJ7.out; have := HJ11.out; have := HK3.out; omega
                              case rel => exact ⟨(wrap64 (x4_3 + 1)), (wrap64 ((wrap64 (x5_3 * 10)) + (((bt a0 x4_3) - 48) % 256))), (by first | rfl | (simp; done) | (simp [*]; done)), (by first | rfl | (simp; done) | (simp [*]; done)), H', ⟨by have := HJ7.out; have := HJ11.out; have := HK3.out; omega⟩, by repeat (first | exact Drawn0.refl _ | apply Drawn0.step)⟩
                            · rw [if_neg c20] at H
                              have c20b0 : decide ((wrap64 (x4_3 - x4_11)) < 9) = false := decide_eq_false c20
                              clear c20
                              have H' := Aside0.mk H
                              clear H
                              have p17 : 0 ≤ (x4_3 : Int) := of_decide_eq_true (by first | (with_reducible assumption) | assumption)
                              have q17 : x4_3 < (a0.size : Int) := of_decide_eq_true (by first | (with_reducible assumption) | assumption)
                              have hx17 := bt_at a0 x4_3
                              replace p17 := eq_true p17
                              replace q17 := eq_true q17
                              go_wp2_with (first | (go_at_call 29; (with_reducible refine (turncockref1_digit.calls (bt a0 x4_3) true _ A18.out).mono ?_); rintro e w' ⟨rfl, ⟨nd, rfl⟩⟩))
                              go_meet
                              case rel => exact ⟨_, (x4_3), (x5_3), (by first | rfl | (simp; done) | (simp [*]; done)), (by first | rfl | (simp; done) | (simp [*]; done)), H', ⟨by have := HJ7.out; have := HJ11.out; have := HK3.out; first | omega | exact Nat.le_refl _⟩, by repeat (first | exact Drawn0.refl _ | apply Drawn0.step)⟩
                          · replace c19 := Bool.eq_false_iff.mpr c19
                            subst c19
                            have H1 : (turncockref1_Read.j3 k3 a0 x4_3 x5_3 0 x4_11) = some (r1, r2) := by rw [if_neg (show ¬ (false = true) by decide)] at H; exact H
                            clear H
                            have H := H1
                            clear H1
                            have H' := Aside0.mk H
                            clear H
                            have p17 : 0 ≤ (x4_3 : Int) := of_decide_eq_true (by first | (with_reducible assumption) | assumption)
                            have q17 : x4_3 < (a0.size : Int) := of_decide_eq_true (by first | (with_reducible assumption) | assumption)
                            have hx17 := bt_at a0 x4_3
                            replace p17 := eq_true p17
                            replace q17 := eq_true q17
                            go_wp2_with (first | (go_at_call 29; (with_reducible refine (turncockref1_digit.calls (bt a0 x4_3) false _ A18.out).mono ?_); rintro e w' ⟨rfl, ⟨nd, rfl⟩⟩))
                            go_meet
                            case rel => exact ⟨_, (x4_3), (x5_3), (by first | rfl | (simp; done) | (simp [*]; done)), (by first | rfl | (simp; done) | (simp [*]; done)), H', ⟨by have := HJ7.out; have := HJ11.out; have := HK3.out; first | omega | exact Nat.le_refl _⟩, by repeat (first | exact Drawn0.refl _ | apply Drawn0.step)⟩
                        · rw [if_neg c16] at H
                          exact absurd H (by simp)
                      · rw [if_neg c15] at H
                        have c15b0 : decide (x4_3 < (a0.size : Int)) = false := decide_eq_false c15
                        clear c15
                        (first | rw [c15b0] | (simp only [i64_w, i32_w]; rw [c15b0]) | skip)
                        have H' := Aside0.mk H
                        clear H
                        go_wp2
                        go_meet
                        case rel => exact ⟨_, (x4_3), (x5_3), (by first | rfl | (simp; done) | (simp [*]; done)), (by first | rfl | (simp; done) | (simp [*]; done)), H', ⟨by have := HJ7.out; have := HJ11.out; have := HK3.out; first | omega | exact Nat.le_refl _⟩, by repeat (first | exact Drawn0.refl _ | apply Drawn0.step)⟩
                case rest =>
                  clear HC14
                  try clear c1
                  try clear p1
                  try clear q1
                  try clear hx1
                  try clear qi1
                  try clear c2
                  try clear c2b0
                  try clear c2b1
                  try clear p2
                  try clear q2
                  try clear hx2
                  try clear c4
                  try clear c4b0
                  try clear c4b1
                  try clear c5
                  try clear c6
                  try clear c6b0
                  try clear c6b1
                  try clear p6
                  try clear c7
                  try clear c9
                  try clear c9b0
                  try clear c9b1
                  try clear c10
                  try clear c10b0
                  try clear c10b1
                  try clear c11
                  try clear p11
                  try clear q11
                  try clear hx11
                  try clear qi11
                  try clear c13
                  try clear c15
                  try clear c15b0
                  try clear c16
                  try clear c16b0
                  try clear p17
                  try clear q17
                  try clear hx17
                  try clear c19
                  try clear c20
                  try clear c20b0
                  try clear p21
                  try clear q21
                  try clear hx21
                  try clear p1
                  try clear p11
                  try clear p17
                  try clear p2
                  try clear p21
                  try clear q1
                  try clear q11
                  try clear q17
                  try clear q21
                  obtain ⟨kq, x4_13, x5_13, rfl, rfl, HA, HJ13, ⟨mc13, rfl⟩⟩ := hcut
                  cases kq with
                  | zero => exact absurd HA.out (by simp [turncockref1_Read.j3])
                  | succ kj13 =>
                    have H := HA.out
                    clear HA
                    simp only [turncockref1_Read.j3] at H
                    have HC22 := Aside0.mk H
                    clear H
                    go_upto_region 14 with (fail)
                    go_cut [67] (fun v67 wc => ∃ (kq : Nat) (x67_21 : Bool), v67 = .bool x67_21 ∧ Aside0 (turncockref1_Read.j4 kq a0 x4_13 x5_13 0 x4_11 x67_21 = some (r1, r2)) ∧ Aside0 (kq ≤ kj13) ∧ Drawn0 w wc)
                    case first =>
                      have H := HC22.out
                      clear HC22
                      by_cases c23 : x4_13 = x4_11
                      · rw [if_pos c23] at H
                        have c23b0 : (x4_13 == x4_11) = true := beq_iff_eq.mpr c23
                        have c23b1 : (x4_13 != x4_11) = false := bne_eq_false_iff_eq.mpr c23
                        clear c23
                        (first | rw [c23b0] | (simp only [i64_w, i32_w]; rw [c23b0]) | skip)
                        have H' := Aside0.mk H
                        clear H
                        go_wp2
                        go_meet
                        case rel => exact ⟨_, (true), (by first | rfl | (simp; done) | (simp [*]; done)), H', ⟨by have := HJ7.out; have := HJ11.out; have := HJ13.out; first | omega | exact Nat.le_refl _⟩, by repeat (first | exact Drawn0.refl _ | apply Drawn0.step)⟩
                      · rw [if_neg c23] at H
                        have c23b0 : (x4_13 == x4_11) = false := beq_eq_false_iff_ne.mpr c23
                        have c23b1 : (x4_13 != x4_11) = true := bne_iff_ne.mpr c23
                        (first | rw [c23b0] | (simp only [i64_w, i32_w]; rw [c23b0]) | skip)
                        by_cases c24 : (wrap64 (x4_13 - x4_11)) > 1
                        · rw [if_pos c24] at H
                          have c24b0 : decide (1 < (wrap64 (x4_13 - x4_11))) = true := decide_eq_true c24
                          clear c24
                          by_cases c25 : 0 ≤ x4_11
                          · rw [if_pos c25] at H
                            have c25b0 : decide (0 ≤ x4_11) = true := decide_eq_true c25
                            clear c25
                            by_cases c26 : x4_11 < (a0.size : Int)
                            · rw [if_pos c26] at H
                              have c26b0 : decide (x4_11 < (a0.size : Int)) = true := decide_eq_true c26
                              clear c26
                              have H' := Aside0.mk H
                              clear H
                              have p27 : 0 ≤ (x4_11 : Int) := of_decide_eq_true (by first | (with_reducible assumption) | assumption)
                              have q27 : x4_11 < (a0.size : Int) := of_decide_eq_true (by first | (with_reducible assumption) | assumption)
                              have hx27 := bt_at a0 x4_11
                              replace p27 := eq_true p27
                              replace q27 := eq_true q27
                              go_wp2
                              go_meet
                              case rel => exact ⟨_, (((bt a0 x4_11) == 48)), (by first | rfl | (simp; done) | (simp [*]; done)), H', ⟨by have := HJ7.out; have := HJ11.out; have := HJ13.out; first | omega | exact Nat.le_refl _⟩, by repeat (first | exact Drawn0.refl _ | apply Drawn0.step)⟩
                            · rw [if_neg c26] at H
                              exact absurd H (by simp)
                          · rw [if_neg c25] at H
                            exact absurd H (by simp)
                        · rw [if_neg c24] at H
                          have c24b0 : decide (1 < (wrap64 (x4_13 - x4_11))) = false := decide_eq_false c24
                          clear c24
                          have H' := Aside0.mk H
                          clear H
                          go_wp2
                          go_meet
                          case rel => exact ⟨_, (false), (by first | rfl | (simp; done) | (simp [*]; done)), H', ⟨by have := HJ7.out; have := HJ11.out; have := HJ13.out; first | omega | exact Nat.le_refl _⟩, by repeat (first | exact Drawn0.refl _ | apply Drawn0.step)⟩
                    case rest =>
                      clear HC22
                      try clear c1
                      try clear p1
                      try clear q1
                      try clear hx1
                      try clear qi1
                      try clear c2
                      try clear c2b0
                      try clear c2b1
                      try clear p2
                      try clear q2
                      try clear hx2
                      try clear c4
                      try clear c4b0
                      try clear c4b1
                      try clear c5
                      try clear c6
                      try clear c6b0
                      try clear c6b1
                      try clear p6
                      try clear c7
                      try clear c9
                      try clear c9b0
                      try clear c9b1
                      try clear c10
                      try clear c10b0
                      try clear c10b1
                      try clear c11
                      try clear p11
                      try clear q11
                      try clear hx11
                      try clear qi11
                      try clear c13
                      try clear c15
                      try clear c15b0
                      try clear c16
                      try clear c16b0
                      try clear p17
                      try clear q17
                      try clear hx17
                      try clear c19
                      try clear c20
                      try clear c20b0
                      try clear p21
                      try clear q21
                      try clear hx21
                      try clear c23
                      try clear c23b0
                      try clear c23b1
                      try clear c24
                      try clear c24b0
                      try clear c25
                      try clear c25b0
                      try clear c26
                      try clear c26b0
                      try clear p27
                      try clear q27
                      try clear hx27
                      try clear p1
                      try clear p11
                      try clear p17
                      try clear p2
                      try clear p21
                      try clear p27
                      try clear p6
                      try clear q1
                      try clear q11
                      try clear q17
                      try clear q2
                      try clear q21
                      try clear q27
                      obtain ⟨kq, x67_21, rfl, HA, HJ21, ⟨mc21, rfl⟩⟩ := hcut
                      cases kq with
                      | zero => exact absurd HA.out (by simp [turncockref1_Read.j4])
                      | succ kj21 =>
                        have H := HA.out
                        clear HA
                        simp only [turncockref1_Read.j4] at H
                        by_cases c28 : x67_21 = true
                        · subst c28
                          have H1 : (some (0, false)) = some (r1, r2) := by rw [if_pos rfl] at H; exact H
                          clear H
                          have H := H1
                          clear H1
                          simp only [Option.some.injEq, Prod.mk.injEq] at H
                          obtain ⟨rfl, rfl⟩ := H
                          go_wp2
                          go_ret2
                          exact ⟨by first | rfl | (simp; done) | (simp [*]; done), by repeat (first | exact Drawn0.refl _ | apply Drawn0.step)⟩
                        · replace c28 := Bool.eq_false_iff.mpr c28
                          subst c28
                          have H1 : (if x4_13 < (a0.size : Int) then (if 0 ≤ x4_13 then (if (bt a0 x4_13) = 46 then (turncockref1_Read.l1 kj21 a0 (wrap64 (x4_13 + 1)) x5_13 0 x4_11) else (some (0, false))) else (none)) else (turncockref1_Read.j6 kj21 a0 x4_13 x5_13 0 x4_11)) = some (r1, r2) := by rw [if_neg (show ¬ (false = true) by decide)] at H; exact H
                          clear H
                          have H := H1
                          clear H1
                          have HC29 := Aside0.mk H
                          clear H
                          go_upto_if 71 with (fail)
                          go_cut [4, 5, 6] (fun v4 v5 v6 wc => ∃ (kq : Nat) (x4_28 : Int) (x5_28 : Int) (x6_28 : Int), v4 = .int .i64 x4_28 ∧ v5 = .int .i64 x5_28 ∧ v6 = .int .i64 x6_28 ∧ Aside0 (turncockref1_Read.j6 kq a0 x4_28 x5_28 x6_28 x4_11 = some (r1, r2)) ∧ Aside0 (kq ≤ kj21) ∧ Drawn0 w wc)
                          case first =>
                            have H := HC29.out
                            clear HC29
                            by_cases c30 : x4_13 < (a0.size : Int)
                            · rw [if_pos c30] at H
                              have c30b0 : decide (x4_13 < (a0.size : Int)) = true := decide_eq_true c30
                              clear c30
                              (first | rw [c30b0] | (simp only [i64_w, i32_w]; rw [c30b0]) | skip)
                              by_cases c31 : 0 ≤ x4_13
                              · rw [if_pos c31] at H
                                have c31b0 : decide (0 ≤ x4_13) = true := decide_eq_true c31
                                clear c31
                                by_cases c33 : (bt a0 x4_13) = 46
                                · rw [if_pos c33] at H
                                  have c33b0 : ((bt a0 x4_13) == 46) = true := beq_iff_eq.mpr c33
                                  have c33b1 : ((bt a0 x4_13) != 46) = false := bne_eq_false_iff_eq.mpr c33
                                  clear c33
                                  have H' := Aside0.mk H
                                  clear H
                                  have p32 : 0 ≤ (x4_13 : Int) := of_decide_eq_true (by first | (with_reducible assumption) | assumption)
                                  have q32 : x4_13 < (a0.size : Int) := of_decide_eq_true (by first | (with_reducible assumption) | assumption)
                                  have hx32 := bt_at a0 x4_13
                                  replace p32 := eq_true p32
                                  replace q32 := eq_true q32
                                  go_wp2
                                  go_loopg [4, 5, 6] kj21 (fun kq v4 v5 v6 w' => ∃ (x4_5 : Int) (x5_5 : Int) (x6_5 : Int), v4 = .int .i64 x4_5 ∧ v5 = .int .i64 x5_5 ∧ v6 = .int .i64 x6_5 ∧ Aside0 (turncockref1_Read.l1 kq a0 x4_5 x5_5 x6_5 x4_11 = some (r1, r2)) ∧ Aside0 (kq ≤ kj21) ∧ Drawn0 w w')
                                  case atStart => exact ⟨(wrap64 (x4_13 + 1)), (x5_13), (0), (by first | rfl | (simp; done) | (simp [*]; done)), (by first | rfl | (simp; done) | (simp [*]; done)), (by first | rfl | (simp; done) | (simp [*]; done)), H', ⟨Nat.le_refl _⟩, by repeat (first | exact Drawn0.refl _ | apply Drawn0.step)⟩
                                  case round =>
                                    clear H'
                                    try clear c1
                                    try clear p1
                                    try clear q1
                                    try clear hx1
                                    try clear qi1
                                    try clear c2
                                    try clear c2b0
                                    try clear c2b1
                                    try clear p2
                                    try clear q2
                                    try clear hx2
                                    try clear c3
                                    try clear p3
                                    try clear q3
                                    try clear hx3
                                    try clear c4
                                    try clear c4b0
                                    try clear c4b1
                                    try clear c5
                                    try clear c6
                                    try clear c6b0
                                    try clear c6b1
                                    try clear p6
                                    try clear c7
                                    try clear c9
                                    try clear c9b0
                                    try clear c9b1
                                    try clear c10
                                    try clear c10b0
                                    try clear c10b1
                                    try clear c11
                                    try clear p11
                                    try clear q11
                                    try clear hx11
                                    try clear qi11
                                    try clear c13
                                    try clear c15
                                    try clear c15b0
                                    try clear c16
                                    try clear c16b0
                                    try clear p17
                                    try clear q17
                                    try clear hx17
                                    try clear c19
                                    try clear c20
                                    try clear c20b0
                                    try clear c21
                                    try clear p21
                                    try clear q21
                                    try clear hx21
                                    try clear c23
                                    try clear c23b0
                                    try clear c23b1
                                    try clear c24
                                    try clear c24b0
                                    try clear c25
                                    try clear c25b0
                                    try clear c26
                                    try clear c26b0
                                    try clear p27
                                    try clear q27
                                    try clear hx27
                                    try clear c28
                                    try clear c30
                                    try clear c30b0
                                    try clear c31
                                    try clear c31b0
                                    try clear p32
                                    try clear q32
                                    try clear hx32
                                    try clear c33
                                    try clear c33b0
                                    try clear c33b1
                                    try clear p1
                                    try clear p11
                                    try clear p17
                                    try clear p2
                                    try clear p21
                                    try clear p27
                                    try clear p32
                                    try clear p6
                                    try clear q1
                                    try clear q11
                                    try clear q17
                                    try clear q2
                                    try clear q21
                                    try clear q27
                                    try clear q32
                                    obtain ⟨x4_5, x5_5, x6_5, rfl, rfl, rfl, HA, HK5, ⟨m5, rfl⟩⟩ := hrel
                                    cases gk with
                                    | zero => exact absurd HA.out (by simp [turncockref1_Read.l1])
                                    | succ k5 =>
                                      have H := HA.out
                                      clear HA
                                      simp only [turncockref1_Read.l1] at H
                                      by_cases c34 : x4_5 < (a0.size : Int)
                                      · rw [if_pos c34] at H
                                        have c34b0 : decide (x4_5 < (a0.size : Int)) = true := decide_eq_true c34
                                        clear c34
                                        by_cases c35 : 0 ≤ x4_5
                                        · rw [if_pos c35] at H
                                          have c35b0 : decide (0 ≤ x4_5) = true := decide_eq_true c35
                                          clear c35
                                          replace H := Option.bind_eq_some_iff.mp H
                                          obtain ⟨t245, A370, H⟩ := H
                                          replace H : (if t245 = true then (if x6_5 < 6 then (turncockref1_Read.l1 k5 a0 (wrap64 (x4_5 + 1)) (wrap64 ((wrap64 (x5_5 * 10)) + (((bt a0 x4_5) - 48) % 256))) (wrap64 (x6_5 + 1)) x4_11) else (if x6_5 = 0 then (some (0, false)) else (turncockref1_Read.j6 k5 a0 x4_5 x5_5 x6_5 x4_11))) else (if x6_5 = 0 then (some (0, false)) else (turncockref1_Read.j6 k5 a0 x4_5 x5_5 x6_5 x4_11))) = some (r1, r2) := H
                                          have A37 := Aside0.mk A370
                                          clear A370
                                          by_cases c38 : t245 = true
                                          · subst c38
                                            have H1 : (if x6_5 < 6 then (turncockref1_Read.l1 k5 a0 (wrap64 (x4_5 + 1)) (wrap64 ((wrap64 (x5_5 * 10)) + (((bt a0 x4_5) - 48) % 256))) (wrap64 (x6_5 + 1)) x4_11) else (if x6_5 = 0 then (some (0, false)) else (turncockref1_Read.j6 k5 a0 x4_5 x5_5 x6_5 x4_11))) = some (r1, r2) := by rw [if_pos rfl] at H; exact H
                                            clear H
                                            have H := H1
                                            clear H1
                                            by_cases c39 : x6_5 < 6
                                            · rw [if_pos c39] at H
                                              have c39b0 : decide (x6_5 < 6) = true := decide_eq_true c39
                                              clear c39
                                              have H' := Aside0.mk H
                                              clear H
                                              have p36 : 0 ≤ (x4_5 : Int) := of_decide_eq_true (by first | (with_reducible assumption) | assumption)
                                              have q36 : x4_5 < (a0.size : Int) := of_decide_eq_true (by first | (with_reducible assumption) | assumption)
                                              have hx36 := bt_at a0 x4_5
                                              replace p36 := eq_true p36
                                              replace q36 := eq_true q36
                                              go_wp2_with (first | (go_at_call 29; (with_reducible refine (turncockref1_digit.calls (bt a0 x4_5) true _ A37.out).mono ?_); rintro e w' ⟨rfl, ⟨nd, rfl⟩⟩; have p40 : 0 ≤ (x4_5 : Int) := of_decide_eq_true (by first | (with_reducible assumption) | assumption); have q40 : x4_5 < (a0.size : Int) := of_decide_eq_true (by first | (with_reducible assumption) | assumption); have hx40 := bt_at a0 x4_5; replace p40 := eq_true p40; replace q40 := eq_true q40))
                                              go_roundg k5
                                              case measure => have := HJ7.out; have := HJ11.out; have := HJ13.out; have := HJ21.out; have := HK5.out; omega
                                              case rel => exact ⟨(wrap64 (x4_5 + 1)), (wrap64 ((wrap64 (x5_5 * 10)) + (((bt a0 x4_5) - 48) % 256))), (wrap64 (x6_5 + 1)), (by first | rfl | (simp; done) | (simp [*]; done)), (by first | rfl | (simp; done) | (simp [*]; done)), (by first | rfl | (simp; done) | (simp [*]; done)), H', ⟨by have := HJ7.out; have := HJ11.out; have := HJ13.out; have := HJ21.out; have := HK5.out; omega⟩, by repeat (first | exact Drawn0.refl _ | apply Drawn0.step)⟩
                                            · rw [if_neg c39] at H
                                              have c39b0 : decide (x6_5 < 6) = false := decide_eq_false c39
                                              clear c39
                                              by_cases c41 : x6_5 = 0
                                              · rw [if_pos c41] at H
                                                have c41b0 : (x6_5 == 0) = true := beq_iff_eq.mpr c41
                                                have c41b1 : (x6_5 != 0) = false := bne_eq_false_iff_eq.mpr c41
                                                clear c41
                                                simp only [Option.some.injEq, Prod.mk.injEq] at H
                                                obtain ⟨rfl, rfl⟩ := H
                                                have p36 : 0 ≤ (x4_5 : Int) := of_decide_eq_true (by first | (with_reducible assumption) | assumption)
                                                have q36 : x4_5 < (a0.size : Int) := of_decide_eq_true (by first | (with_reducible assumption) | assumption)
                                                have hx36 := bt_at a0 x4_5
                                                replace p36 := eq_true p36
                                                replace q36 := eq_true q36
                                                go_wp2_with (first | (go_at_call 29; (with_reducible refine (turncockref1_digit.calls (bt a0 x4_5) true _ A37.out).mono ?_); rintro e w' ⟨rfl, ⟨nd, rfl⟩⟩))
                                                go_ret2
                                                exact ⟨by first | rfl | (simp; done) | (simp [*]; done), by repeat (first | exact Drawn0.refl _ | apply Drawn0.step)⟩
                                              · rw [if_neg c41] at H
                                                have c41b0 : (x6_5 == 0) = false := beq_eq_false_iff_ne.mpr c41
                                                have c41b1 : (x6_5 != 0) = true := bne_iff_ne.mpr c41
                                                have H' := Aside0.mk H
                                                clear H
                                                have p36 : 0 ≤ (x4_5 : Int) := of_decide_eq_true (by first | (with_reducible assumption) | assumption)
                                                have q36 : x4_5 < (a0.size : Int) := of_decide_eq_true (by first | (with_reducible assumption) | assumption)
                                                have hx36 := bt_at a0 x4_5
                                                replace p36 := eq_true p36
                                                replace q36 := eq_true q36
                                                go_wp2_with (first | (go_at_call 29; (with_reducible refine (turncockref1_digit.calls (bt a0 x4_5) true _ A37.out).mono ?_); rintro e w' ⟨rfl, ⟨nd, rfl⟩⟩))
                                                go_meet
                                                case rel => exact ⟨_, (x4_5), (x5_5), (x6_5), (by first | rfl | (simp; done) | (simp [*]; done)), (by first | rfl | (simp; done) | (simp [*]; done)), (by first | rfl | (simp; done) | (simp [*]; done)), H', ⟨by have := HJ7.out; have := HJ11.out; have := HJ13.out; have := HJ21.out; have := HK5.out; first | omega | exact Nat.le_refl _⟩, by repeat (first | exact Drawn0.refl _ | apply Drawn0.step)⟩
                                          · replace c38 := Bool.eq_false_iff.mpr c38
                                            subst c38
                                            have H1 : (if x6_5 = 0 then (some (0, false)) else (turncockref1_Read.j6 k5 a0 x4_5 x5_5 x6_5 x4_11)) = some (r1, r2) := by rw [if_neg (show ¬ (false = true) by decide)] at H; exact H
                                            clear H
                                            have H := H1
                                            clear H1
                                            by_cases c42 : x6_5 = 0
                                            · rw [if_pos c42] at H
                                              have c42b0 : (x6_5 == 0) = true := beq_iff_eq.mpr c42
                                              have c42b1 : (x6_5 != 0) = false := bne_eq_false_iff_eq.mpr c42
                                              clear c42
                                              simp only [Option.some.injEq, Prod.mk.injEq] at H
                                              obtain ⟨rfl, rfl⟩ := H
                                              have p36 : 0 ≤ (x4_5 : Int) := of_decide_eq_true (by first | (with_reducible assumption) | assumption)
                                              have q36 : x4_5 < (a0.size : Int) := of_decide_eq_true (by first | (with_reducible assumption) | assumption)
                                              have hx36 := bt_at a0 x4_5
                                              replace p36 := eq_true p36
                                              replace q36 := eq_true q36
                                              go_wp2_with (first | (go_at_call 29; (with_reducible refine (turncockref1_digit.calls (bt a0 x4_5) false _ A37.out).mono ?_); rintro e w' ⟨rfl, ⟨nd, rfl⟩⟩))
                                              go_ret2
                                              exact ⟨by first | rfl | (simp; done) | (simp [*]; done), by repeat (first | exact Drawn0.refl _ | apply Drawn0.step)⟩
                                            · rw [if_neg c42] at H
                                              have c42b0 : (x6_5 == 0) = false := beq_eq_false_iff_ne.mpr c42
                                              have c42b1 : (x6_5 != 0) = true := bne_iff_ne.mpr c42
                                              have H' := Aside0.mk H
                                              clear H
                                              have p36 : 0 ≤ (x4_5 : Int) := of_decide_eq_true (by first | (with_reducible assumption) | assumption)
                                              have q36 : x4_5 < (a0.size : Int) := of_decide_eq_true (by first | (with_reducible assumption) | assumption)
                                              have hx36 := bt_at a0 x4_5
                                              replace p36 := eq_true p36
                                              replace q36 := eq_true q36
                                              go_wp2_with (first | (go_at_call 29; (with_reducible refine (turncockref1_digit.calls (bt a0 x4_5) false _ A37.out).mono ?_); rintro e w' ⟨rfl, ⟨nd, rfl⟩⟩))
                                              go_meet
                                              case rel => exact ⟨_, (x4_5), (x5_5), (x6_5), (by first | rfl | (simp; done) | (simp [*]; done)), (by first | rfl | (simp; done) | (simp [*]; done)), (by first | rfl | (simp; done) | (simp [*]; done)), H', ⟨by have := HJ7.out; have := HJ11.out; have := HJ13.out; have := HJ21.out; have := HK5.out; first | omega | exact Nat.le_refl _⟩, by repeat (first | exact Drawn0.refl _ | apply Drawn0.step)⟩
                                        · rw [if_neg c35] at H
                                          exact absurd H (by simp)
                                      · rw [if_neg c34] at H
                                        have c34b0 : decide (x4_5 < (a0.size : Int)) = false := decide_eq_false c34
                                        clear c34
                                        by_cases c43 : x6_5 = 0
                                        · rw [if_pos c43] at H
                                          have c43b0 : (x6_5 == 0) = true := beq_iff_eq.mpr c43
                                          have c43b1 : (x6_5 != 0) = false := bne_eq_false_iff_eq.mpr c43
                                          clear c43
                                          simp only [Option.some.injEq, Prod.mk.injEq] at H
                                          obtain ⟨rfl, rfl⟩ := H
                                          go_wp2
                                          go_ret2
                                          exact ⟨by first | rfl | (simp; done) | (simp [*]; done), by repeat (first | exact Drawn0.refl _ | apply Drawn0.step)⟩
                                        · rw [if_neg c43] at H
                                          have c43b0 : (x6_5 == 0) = false := beq_eq_false_iff_ne.mpr c43
                                          have c43b1 : (x6_5 != 0) = true := bne_iff_ne.mpr c43
                                          have H' := Aside0.mk H
                                          clear H
                                          go_wp2
                                          go_meet
                                          case rel => exact ⟨_, (x4_5), (x5_5), (x6_5), (by first | rfl | (simp; done) | (simp [*]; done)), (by first | rfl | (simp; done) | (simp [*]; done)), (by first | rfl | (simp; done) | (simp [*]; done)), H', ⟨by have := HJ7.out; have := HJ11.out; have := HJ13.out; have := HJ21.out; have := HK5.out; first | omega | exact Nat.le_refl _⟩, by repeat (first | exact Drawn0.refl _ | apply Drawn0.step)⟩
                                · rw [if_neg c33] at H
                                  have c33b0 : ((bt a0 x4_13) == 46) = false := beq_eq_false_iff_ne.mpr c33
                                  have c33b1 : ((bt a0 x4_13) != 46) = true := bne_iff_ne.mpr c33
                                  simp only [Option.some.injEq, Prod.mk.injEq] at H
                                  obtain ⟨rfl, rfl⟩ := H
                                  have p32 : 0 ≤ (x4_13 : Int) := of_decide_eq_true (by first | (with_reducible assumption) | assumption)
                                  have q32 : x4_13 < (a0.size : Int) := of_decide_eq_true (by first | (with_reducible assumption) | assumption)
                                  have hx32 := bt_at a0 x4_13
                                  replace p32 := eq_true p32
                                  replace q32 := eq_true q32
                                  go_wp2
                                  go_ret2
                                  exact ⟨by first | rfl | (simp; done) | (simp [*]; done), by repeat (first | exact Drawn0.refl _ | apply Drawn0.step)⟩
                              · rw [if_neg c31] at H
                                exact absurd H (by simp)
                            · rw [if_neg c30] at H
                              have c30b0 : decide (x4_13 < (a0.size : Int)) = false := decide_eq_false c30
                              clear c30
                              (first | rw [c30b0] | (simp only [i64_w, i32_w]; rw [c30b0]) | skip)
                              have H' := Aside0.mk H
                              clear H
                              go_wp2
                              go_meet
                              case rel => exact ⟨_, (x4_13), (x5_13), (0), (by first | rfl | (simp; done) | (simp [*]; done)), (by first | rfl | (simp; done) | (simp [*]; done)), (by first | rfl | (simp; done) | (simp [*]; done)), H', ⟨by have := HJ7.out; have := HJ11.out; have := HJ13.out; have := HJ21.out; first | omega | exact Nat.le_refl _⟩, by repeat (first | exact Drawn0.refl _ | apply Drawn0.step)⟩
                          case rest =>
                            clear HC29
                            try clear c1
                            try clear p1
                            try clear q1
                            try clear hx1
                            try clear qi1
                            try clear c2
                            try clear c2b0
                            try clear c2b1
                            try clear p2
                            try clear q2
                            try clear hx2
                            try clear c3
                            try clear p3
                            try clear q3
                            try clear hx3
                            try clear c4
                            try clear c4b0
                            try clear c4b1
                            try clear p4
                            try clear q4
                            try clear hx4
                            try clear c5
                            try clear c6
                            try clear c6b0
                            try clear c6b1
                            try clear p6
                            try clear c7
                            try clear c9
                            try clear c9b0
                            try clear c9b1
                            try clear c10
                            try clear c10b0
                            try clear c10b1
                            try clear c11
                            try clear p11
                            try clear q11
                            try clear hx11
                            try clear qi11
                            try clear c13
                            try clear c15
                            try clear c15b0
                            try clear c16
                            try clear c16b0
                            try clear p17
                            try clear q17
                            try clear hx17
                            try clear c19
                            try clear c20
                            try clear c20b0
                            try clear c21
                            try clear p21
                            try clear q21
                            try clear hx21
                            try clear c23
                            try clear c23b0
                            try clear c23b1
                            try clear c24
                            try clear c24b0
                            try clear c25
                            try clear c25b0
                            try clear c26
                            try clear c26b0
                            try clear p27
                            try clear q27
                            try clear hx27
                            try clear c28
                            try clear c30
                            try clear c30b0
                            try clear c31
                            try clear c31b0
                            try clear p32
                            try clear q32
                            try clear hx32
                            try clear c33
                            try clear c33b0
                            try clear c33b1
                            try clear c34
                            try clear c34b0
                            try clear c35
                            try clear c35b0
                            try clear p36
                            try clear q36
                            try clear hx36
                            try clear c38
                            try clear c39
                            try clear c39b0
                            try clear p40
                            try clear q40
                            try clear hx40
                            try clear c41
                            try clear c41b0
                            try clear c41b1
                            try clear c42
                            try clear c42b0
                            try clear c42b1
                            try clear c43
                            try clear c43b0
                            try clear c43b1
                            try clear p1
                            try clear p11
                            try clear p17
                            try clear p2
                            try clear p21
                            try clear p27
                            try clear p3
                            try clear p32
                            try clear p36
                            try clear p40
                            try clear p6
                            try clear q1
                            try clear q11
                            try clear q17
                            try clear q2
                            try clear q21
                            try clear q27
                            try clear q3
                            try clear q32
                            try clear q36
                            try clear q40
                            obtain ⟨kq, x4_28, x5_28, x6_28, rfl, rfl, rfl, HA, HJ28, ⟨mc28, rfl⟩⟩ := hcut
                            cases kq with
                            | zero => exact absurd HA.out (by simp [turncockref1_Read.j6])
                            | succ kj28 =>
                              have H := HA.out
                              clear HA
                              simp only [turncockref1_Read.j6] at H
                              by_cases c44 : x4_28 < (a0.size : Int)
                              · rw [if_pos c44] at H
                                have c44b0 : decide (x4_28 < (a0.size : Int)) = true := decide_eq_true c44
                                clear c44
                                simp only [Option.some.injEq, Prod.mk.injEq] at H
                                obtain ⟨rfl, rfl⟩ := H
                                go_wp2
                                go_ret2
                                exact ⟨by first | rfl | (simp; done) | (simp [*]; done), by repeat (first | exact Drawn0.refl _ | apply Drawn0.step)⟩
                              · rw [if_neg c44] at H
                                have c44b0 : decide (x4_28 < (a0.size : Int)) = false := decide_eq_false c44
                                clear c44
                                replace H := Option.bind_eq_some_iff.mp H
                                obtain ⟨t246, A450, H⟩ := H
                                replace H : (if (fquoOk (fofi x5_28) (fofi t246)) = true then (if x4_11 = 1 then (some (fneg (fquo (fofi x5_28) (fofi t246)), true)) else (some (fquo (fofi x5_28) (fofi t246), true))) else (none)) = some (r1, r2) := H
                                have A45 := Aside0.mk A450
                                clear A450
                                by_cases c46 : (fquoOk (fofi x5_28) (fofi t246)) = true
                                · rw [if_pos c46] at H
                                  have c46b0 := eq_true c46
                                  have c46b1 : decide ((fquoOk (fofi x5_28) (fofi t246)) = true) = true := decide_eq_true c46
                                  clear c46
                                  by_cases c47 : x4_11 = 1
                                  · rw [if_pos c47] at H
                                    have c47b0 : (x4_11 == 1) = true := beq_iff_eq.mpr c47
                                    have c47b1 : (x4_11 != 1) = false := bne_eq_false_iff_eq.mpr c47
                                    clear c47
                                    simp only [Option.some.injEq, Prod.mk.injEq] at H
                                    obtain ⟨rfl, rfl⟩ := H
                                    go_wp2_with (first | ((with_reducible refine gate_callee (f := 53) rfl ?_); refine goesL_ (some 113) rfl rfl Try.func53 (by kernel_rfl) rfl #[.int .i64 x6_28] rfl (by (try simp only [List.map_toArray, List.map_cons, List.map_nil]); first | done | rfl | (simp only [List.length_drop, List.length_take]; rfl)) ?_; (with_reducible refine (turncockref1_ten.calls kj28 x6_28 t246 _ A45.out).mono ?_); rintro e w' ⟨rfl, ⟨nd, rfl⟩⟩; refine ⟨_, rfl, ?_⟩))
                                    go_ret2
                                    exact ⟨by first | rfl | (simp; done) | (simp [*]; done), by repeat (first | exact Drawn0.refl _ | apply Drawn0.step)⟩
                                  · rw [if_neg c47] at H
                                    have c47b0 : (x4_11 == 1) = false := beq_eq_false_iff_ne.mpr c47
                                    have c47b1 : (x4_11 != 1) = true := bne_iff_ne.mpr c47
                                    simp only [Option.some.injEq, Prod.mk.injEq] at H
                                    obtain ⟨rfl, rfl⟩ := H
                                    go_wp2_with (first | ((with_reducible refine gate_callee (f := 53) rfl ?_); refine goesL_ (some 113) rfl rfl Try.func53 (by kernel_rfl) rfl #[.int .i64 x6_28] rfl (by (try simp only [List.map_toArray, List.map_cons, List.map_nil]); first | done | rfl | (simp only [List.length_drop, List.length_take]; rfl)) ?_; (with_reducible refine (turncockref1_ten.calls kj28 x6_28 t246 _ A45.out).mono ?_); rintro e w' ⟨rfl, ⟨nd, rfl⟩⟩; refine ⟨_, rfl, ?_⟩))
                                    go_ret2
                                    exact ⟨by first | rfl | (simp; done) | (simp [*]; done), by repeat (first | exact Drawn0.refl _ | apply Drawn0.step)⟩
                                · rw [if_neg c46] at H
                                  exact absurd H (by simp)
end Go.Proofs.Ytipbigdpannlcaa.PTrieFits
