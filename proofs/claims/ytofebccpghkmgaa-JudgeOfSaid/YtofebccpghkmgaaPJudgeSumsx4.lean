-- WRITTEN BY THIS SESSION'S mprint.py upon the print: some functions are proved by hand
import Derived.Test.YtofebccpghkmgaaPJudgeSumsx0
import Derived.Test.YtofebccpghkmgaaPJudgeSumsx3
namespace Go.Proofs.Ytofebccpghkmgaa.PJudgeSums
open Go.RowKit Go.Proofs.YtofebccpghkmgaaW.PrintWords Go.Proofs.YtofebccpghkmgaaW.PrintLast Go.Proofs.YtofebccpghkmgaaW.PrintMore
attribute [local go_sem] max2_int min2_int max_two min_two max_three min_three max_four min_four   -- for this text's walks alone
set_option linter.unusedVariables false
set_option linter.unusedSimpArgs false

/-! ### turncockref1_ten: function 57 -/
def turncockref1_ten.l0 : Nat → Int → Int → Int → Option (Int)
  | 0, _, _, _ => none
  | k + 1, x0, x3, x4 => if x4 < x0 then (turncockref1_ten.l0 k x0 (wrap64 (x3 * 10)) (wrap64 (x4 + 1))) else (some x3)
def turncockref1_ten.f (k : Nat) (a0 : Int) : Option (Int) := turncockref1_ten.l0 k a0 1 0
theorem turncockref1_ten.mono_l : ∀ k, (∀ y0 y1 y2, LeO (turncockref1_ten.l0 k y0 y1 y2) (turncockref1_ten.l0 (k + 1) y0 y1 y2))
  | 0 => fun _ _ _ r h => by simp [turncockref1_ten.l0] at h
  | k + 1 => by
    have ih0 := turncockref1_ten.mono_l k
    · intro y0 y1 y2
      unfold turncockref1_ten.l0
      repeat' first
      | (with_reducible exact ih0 _ _ _)
      | (with_reducible exact LeO.refl _)
      | (with_reducible exact LeO.none _)
      | (with_reducible refine LeO.ite ?_ ?_)
      | (with_reducible refine LeO.bind ?_ (fun _ => ?_))
      | exact ih0 _ _ _
      | exact LeO.none _
      | refine LeO.ite ?_ ?_
      | refine LeO.bind ?_ (fun _ => ?_)
theorem turncockref1_ten.mono : ∀ a0 k, LeO (turncockref1_ten.f k a0) (turncockref1_ten.f (k + 1) a0) := by
  intro a0 k
  have ih0 := turncockref1_ten.mono_l k
  unfold turncockref1_ten.f
  repeat' first
      | (with_reducible exact ih0 _ _ _)
      | (with_reducible exact LeO.refl _)
      | (with_reducible exact LeO.none _)
      | (with_reducible refine LeO.ite ?_ ?_)
      | (with_reducible refine LeO.bind ?_ (fun _ => ?_))
      | exact ih0 _ _ _
      | exact LeO.none _
      | refine LeO.ite ?_ ?_
      | refine LeO.bind ?_ (fun _ => ?_)
set_option maxHeartbeats 8000000 in
set_option maxRecDepth 100000 in
theorem turncockref1_ten.calls (k : Nat) (a0 : Int) (r : Int) (w : World) (h : turncockref1_ten.f k a0 = some r) :
    Calls Try.prog 57 #[.int .i64 a0] w fun e w' => e = .returned (.int .i64 r) ∧ Drawn0 w w' := by
  have H : (turncockref1_ten.l0 k a0 1 0) = some r := h
  clear h
  have H' := Aside0.mk H
  clear H
  go_enter Try.func57, Try.ntmps57
  go_wp2
  go_loopg [3, 4] k (fun kq v3 v4 w' => ∃ (x3_1 : Int) (x4_1 : Int), v3 = .int .i64 x3_1 ∧ v4 = .int .i64 x4_1 ∧ Aside0 (turncockref1_ten.l0 kq a0 x3_1 x4_1 = some r) ∧ Aside0 (kq ≤ k) ∧ Drawn0 w w')
  case atStart => exact ⟨(1), (0), (by first | rfl | (simp; done) | (simp [*]; done)), (by first | rfl | (simp; done) | (simp [*]; done)), H', ⟨Nat.le_refl _⟩, by repeat (first | exact Drawn0.refl _ | apply Drawn0.step)⟩
  case round =>
    clear H'
    obtain ⟨x3_1, x4_1, rfl, rfl, HA, HK1, ⟨m1, rfl⟩⟩ := hrel
    cases gk with
    | zero => exact absurd HA.out (by simp [turncockref1_ten.l0])
    | succ k1 =>
      have H := HA.out
      clear HA
      simp only [turncockref1_ten.l0] at H
      by_cases c2 : x4_1 < a0
      · rw [if_pos c2] at H
        have c2b0 : decide (x4_1 < a0) = true := decide_eq_true c2
        clear c2
        have H' := Aside0.mk H
        clear H
        go_wp2
        go_roundg k1
        case measure => have := HK1.out; omega
        case rel => exact ⟨(wrap64 (x3_1 * 10)), (wrap64 (x4_1 + 1)), (by first | rfl | (simp; done) | (simp [*]; done)), (by first | rfl | (simp; done) | (simp [*]; done)), H', ⟨by have := HK1.out; omega⟩, by repeat (first | exact Drawn0.refl _ | apply Drawn0.step)⟩
      · rw [if_neg c2] at H
        have c2b0 : decide (x4_1 < a0) = false := decide_eq_false c2
        clear c2
        obtain rfl := Option.some.inj H
        go_wp2
        go_ret
        exact ⟨by first | rfl | (simp; done) | (simp [*]; done), by repeat (first | exact Drawn0.refl _ | apply Drawn0.step)⟩

/-! ### math_archFloor: function 80 (my own) -/
@[go_sem] theorem math_archFloor.ext (x : Nat) (h : ffloorOk x = true) (w : World) : (callFunc 80 #[.float .f64 x]).run Try.prog w = .ok (.value (.float .f64 (ffloor x))) w := by
  rw [run_callFunc_extern Try.func80 (by kernel_rfl) (by kernel_rfl) (by kernel_rfl) (e := Extern.MathFloor.toIntegral "math.archFloor" .down) (by kernel_rfl)]
  rw [run_archFloor w x h]
  rfl

/-! ### math_Floor: function 58 (my own) -/
def math_Floor.f (a0 : Nat) : Option (Nat) := if ffloorOk a0 = true then some (ffloor a0) else none
set_option maxRecDepth 100000 in
theorem math_Floor.calls (a0 : Nat) (r : Nat) (w : World) (h : math_Floor.f a0 = some r) :
    Calls Try.prog 58 #[.float .f64 a0] w fun e w' => e = .returned (.float .f64 r) ∧ Drawn0 w w' := by
  unfold math_Floor.f at h
  split at h
  · rename_i hk
    obtain rfl := Option.some.inj h
    clear h
    go_enter Try.func58, Try.ntmps58
    go_wp2
    go_ret
    exact ⟨by first | rfl | simp, by repeat (first | exact Drawn0.refl _ | apply Drawn0.step)⟩
  · cases h

/-! ### turncockref1_filled: function 59 -/
def turncockref1_filled.l0 : Nat → Int → ByteArray → Option (ByteArray)
  | 0, _, _ => none
  | k + 1, x1, x5 => if (x5.size : Int) < x1 then (if 1 + x5.size ≤ 9223372036854775807 then (turncockref1_filled.l0 k x1 ((⟨#[48]⟩ : ByteArray) ++ x5)) else (none)) else (some x5)
def turncockref1_filled.f (k : Nat) (a0 : Int) (a1 : Int) : Option (ByteArray) := (turncockref1_Digits.f k a0).bind fun t115 => (turncockref1_filled.l0 k a1 t115)
theorem turncockref1_filled.mono_l : ∀ k, (∀ y0 y1, LeO (turncockref1_filled.l0 k y0 y1) (turncockref1_filled.l0 (k + 1) y0 y1))
  | 0 => fun _ _ r h => by simp [turncockref1_filled.l0] at h
  | k + 1 => by
    have ih0 := turncockref1_filled.mono_l k
    · intro y0 y1
      unfold turncockref1_filled.l0
      repeat' first
      | (with_reducible exact ih0 _ _)
      | (with_reducible exact turncockref1_Digits.mono _ _)
      | (with_reducible exact LeO.refl _)
      | (with_reducible exact LeO.none _)
      | (with_reducible refine LeO.ite ?_ ?_)
      | (with_reducible refine LeO.bind ?_ (fun _ => ?_))
      | exact ih0 _ _
      | exact turncockref1_Digits.mono _ _
      | exact LeO.none _
      | refine LeO.ite ?_ ?_
      | refine LeO.bind ?_ (fun _ => ?_)
theorem turncockref1_filled.mono : ∀ a0 a1 k, LeO (turncockref1_filled.f k a0 a1) (turncockref1_filled.f (k + 1) a0 a1) := by
  intro a0 a1 k
  have ih0 := turncockref1_filled.mono_l k
  unfold turncockref1_filled.f
  repeat' first
      | (with_reducible exact ih0 _ _)
      | (with_reducible exact turncockref1_Digits.mono _ _)
      | (with_reducible exact LeO.refl _)
      | (with_reducible exact LeO.none _)
      | (with_reducible refine LeO.ite ?_ ?_)
      | (with_reducible refine LeO.bind ?_ (fun _ => ?_))
      | exact ih0 _ _
      | exact turncockref1_Digits.mono _ _
      | exact LeO.none _
      | refine LeO.ite ?_ ?_
      | refine LeO.bind ?_ (fun _ => ?_)
set_option maxHeartbeats 8000000 in
set_option maxRecDepth 100000 in
theorem turncockref1_filled.calls (k : Nat) (a0 : Int) (a1 : Int) (r : ByteArray) (w : World) (h : turncockref1_filled.f k a0 a1 = some r) :
    Calls Try.prog 59 #[.int .i64 a0, .int .i64 a1] w fun e w' => e = .returned (.string r) ∧ Below w.heap.size w w' := by
  have HB := Aside0.mk (Below.refl w.heap.size w)
  have H : ((turncockref1_Digits.f k a0).bind fun t115 => (turncockref1_filled.l0 k a1 t115)) = some r := h
  clear h
  replace H := Option.bind_eq_some_iff.mp H
  obtain ⟨t115, A30, H⟩ := H
  replace H : (turncockref1_filled.l0 k a1 t115) = some r := H
  have A3 := Aside0.mk A30
  clear A30
  have H' := Aside0.mk H
  clear H
  go_enter Try.func59, Try.ntmps59
  go_wp2_with (first | ((with_reducible refine gate_callee (f := 44) rfl ?_); refine goesL_ (some 7) rfl rfl Try.func44 (by kernel_rfl) rfl #[.int .i64 a0] rfl (by (try simp only [List.map_toArray, List.map_cons, List.map_nil]); first | done | rfl | (simp only [List.length_drop, List.length_take]; rfl)) ?_; (with_reducible refine (turncockref1_Digits.calls k a0 t115 _ A3.out).mono ?_); rintro e w4 ⟨rfl, hb⟩; refine ⟨_, rfl, ?_⟩; have n0_ := Aside0.mk (below_step (by repeat (first | (with_reducible first | exact HB.out | apply below_alloc | apply pw_below_drewN | apply below_drew1) | exact HB.out)) hb); clear HB; have HB := n0_; clear n0_; (try clear hb); (try clear hb2); (try clear hk); (try clear hi)))
  go_loopg [5] k (fun kq v5 w' => ∃ (x5_1 : ByteArray), v5 = .string x5_1 ∧ Aside0 (turncockref1_filled.l0 kq a1 x5_1 = some r) ∧ Aside0 (kq ≤ k) ∧ Aside0 (Below w.heap.size w w'))
  case atStart => exact ⟨(t115), (by first | rfl | (simp; done) | (simp [*]; done)), H', ⟨Nat.le_refl _⟩, ⟨by repeat (first | (with_reducible first | exact HB.out | apply below_alloc | apply pw_below_drewN | apply below_drew1) | exact HB.out)⟩⟩
  case round =>
    clear H'
    try clear p2
    try clear c4
    obtain ⟨x5_1, rfl, HA, HK1, HB⟩ := hrel
    cases gk with
    | zero => exact absurd HA.out (by simp [turncockref1_filled.l0])
    | succ k1 =>
      have H := HA.out
      clear HA
      simp only [turncockref1_filled.l0] at H
      by_cases c5 : (x5_1.size : Int) < a1
      · rw [if_pos c5] at H
        have c5b0 : decide ((x5_1.size : Int) < a1) = true := decide_eq_true c5
        clear c5
        by_cases c6 : 1 + x5_1.size ≤ 9223372036854775807
        · rw [if_pos c6] at H
          have c6b0 := eq_true c6
          have c6b1 : decide (1 + x5_1.size ≤ 9223372036854775807) = true := decide_eq_true c6
          try have c6b2 : (9223372036854775807 < 1 + x5_1.size) = False := eq_false (Nat.not_lt.2 c6)
          have H' := Aside0.mk H
          clear H
          go_wp2
          go_roundg k1
          case measure => have := HK1.out; omega
          case rel => exact ⟨((⟨#[48]⟩ : ByteArray) ++ x5_1), (by first | rfl | (simp; done) | (simp [*]; done)), H', ⟨by have := HK1.out; omega⟩, ⟨by repeat (first | (with_reducible first | exact HB.out | apply below_alloc | apply pw_below_drewN | apply below_drew1) | exact HB.out)⟩⟩
        · rw [if_neg c6] at H
          exact absurd H (by simp)
      · rw [if_neg c5] at H
        have c5b0 : decide ((x5_1.size : Int) < a1) = false := decide_eq_false c5
        clear c5
        obtain rfl := Option.some.inj H
        go_wp2
        go_ret
        exact ⟨by first | rfl | (simp [errW_none, errW_some] <;> rfl) | (simp [*, errW_none, errW_some] <;> rfl), by repeat (first | (with_reducible first | exact HB.out | apply below_alloc | apply pw_below_drewN | apply below_drew1) | exact HB.out)⟩

/-! ### turncockref1_Write: function 37 -/
mutual
def turncockref1_Write.j0 : Nat → Nat → ByteArray → Option (ByteArray × Bool)
  | 0, _, _ => none
  | k + 1, x0, x4 => (math_IsInf.f x0 0).bind fun t118 => (if t118 = true then (if x4.size + 3 ≤ 9223372036854775807 then (some (x4 ++ (⟨#[105, 110, 102]⟩ : ByteArray), true)) else (none)) else ((math_Abs.f x0).bind fun t119 => (if (fge t119 4741671816366391296) = true then (some ((⟨#[]⟩ : ByteArray), false)) else (turncockref1_Write.l0 k x4 t119 0))))
def turncockref1_Write.l0 : Nat → ByteArray → Nat → Int → Option (ByteArray × Bool)
  | 0, _, _, _ => none
  | k + 1, x4, x5, x6 => if x6 ≤ 6 then ((turncockref1_ten.f k x6).bind fun t120 => (if (fmulOk x5 (fofi t120)) = true then ((math_Floor.f (fmul x5 (fofi t120))).bind fun t121 => (if (f2iOk t121) = true then (turncockref1_Write.l1 k x4 x5 x6 (f2i t121) (wrap64 ((f2i t121) - 1))) else (none))) else (none))) else (some ((⟨#[]⟩ : ByteArray), false))
def turncockref1_Write.l1 : Nat → ByteArray → Nat → Int → Int → Int → Option (ByteArray × Bool)
  | 0, _, _, _, _, _ => none
  | k + 1, x4, x5, x6, x8, x9 => if x9 ≤ (wrap64 (x8 + 1)) then (if x9 < 0 then (turncockref1_Write.j3 k x4 x5 x6 x8 x9 true) else ((turncockref1_ten.f k x6).bind fun t122 => (if t122 = 0 then (none) else (if (wrap64 (Int.tdiv x9 t122)) > 999999999 then (turncockref1_Write.j3 k x4 x5 x6 x8 x9 true) else (if (fquoOk (fofi x9) (fofi t122)) = true then (turncockref1_Write.j3 k x4 x5 x6 x8 x9 (fne (fquo (fofi x9) (fofi t122)) x5)) else (none)))))) else (turncockref1_Write.l0 k x4 x5 (wrap64 (x6 + 1)))
def turncockref1_Write.j3 : Nat → ByteArray → Nat → Int → Int → Int → Bool → Option (ByteArray × Bool)
  | 0, _, _, _, _, _, _ => none
  | k + 1, x4, x5, x6, x8, x9, x61 => if x61 = true then (turncockref1_Write.l1 k x4 x5 x6 x8 (wrap64 (x9 + 1))) else ((turncockref1_ten.f k x6).bind fun t123 => (if t123 = 0 then (none) else ((turncockref1_Digits.f k (wrap64 (Int.tdiv x9 t123))).bind fun t124 => (if x4.size + t124.size ≤ 9223372036854775807 then (if x6 > 0 then (if x4.size + t124.size + 1 ≤ 9223372036854775807 then ((turncockref1_ten.f k x6).bind fun t125 => (if t125 = 0 then (none) else ((turncockref1_filled.f k (Int.tmod x9 t125) x6).bind fun t126 => (if x4.size + t124.size + 1 + t126.size ≤ 9223372036854775807 then (some (((x4 ++ t124) ++ (⟨#[46]⟩ : ByteArray)) ++ t126, true)) else (none))))) else (none)) else (some (x4 ++ t124, true))) else (none)))))
end
def turncockref1_Write.f (k : Nat) (a0 : Nat) : Option (ByteArray × Bool) := (math_IsNaN.f a0).bind fun t116 => (if t116 = true then (some ((⟨#[110, 97, 110]⟩ : ByteArray), true)) else ((math_Signbit.f a0).bind fun t117 => (if t117 = true then (turncockref1_Write.j0 k a0 (⟨#[45]⟩ : ByteArray)) else (turncockref1_Write.j0 k a0 (⟨#[]⟩ : ByteArray)))))
theorem turncockref1_Write.mono_l : ∀ k, (∀ y0 y1, LeO (turncockref1_Write.j0 k y0 y1) (turncockref1_Write.j0 (k + 1) y0 y1)) ∧ (∀ y0 y1 y2, LeO (turncockref1_Write.l0 k y0 y1 y2) (turncockref1_Write.l0 (k + 1) y0 y1 y2)) ∧ (∀ y0 y1 y2 y3 y4, LeO (turncockref1_Write.l1 k y0 y1 y2 y3 y4) (turncockref1_Write.l1 (k + 1) y0 y1 y2 y3 y4)) ∧ (∀ y0 y1 y2 y3 y4 y5, LeO (turncockref1_Write.j3 k y0 y1 y2 y3 y4 y5) (turncockref1_Write.j3 (k + 1) y0 y1 y2 y3 y4 y5))
  | 0 => ⟨fun _ _ r h => by simp [turncockref1_Write.j0] at h, fun _ _ _ r h => by simp [turncockref1_Write.l0] at h, fun _ _ _ _ _ r h => by simp [turncockref1_Write.l1] at h, fun _ _ _ _ _ _ r h => by simp [turncockref1_Write.j3] at h⟩
  | k + 1 => by
    obtain ⟨ih0, ih1, ih2, ih3⟩ := turncockref1_Write.mono_l k
    refine ⟨?_, ?_, ?_, ?_⟩
    · intro y0 y1
      unfold turncockref1_Write.j0
      repeat' first
      | (with_reducible exact ih0 _ _)
      | (with_reducible exact ih1 _ _ _)
      | (with_reducible exact ih2 _ _ _ _ _)
      | (with_reducible exact ih3 _ _ _ _ _ _)
      | (with_reducible exact turncockref1_Digits.mono _ _)
      | (with_reducible exact turncockref1_filled.mono _ _ _)
      | (with_reducible exact turncockref1_ten.mono _ _)
      | (with_reducible exact LeO.refl _)
      | (with_reducible exact LeO.none _)
      | (with_reducible refine LeO.ite ?_ ?_)
      | (with_reducible refine LeO.bind ?_ (fun _ => ?_))
      | exact ih0 _ _
      | exact ih1 _ _ _
      | exact ih2 _ _ _ _ _
      | exact ih3 _ _ _ _ _ _
      | exact turncockref1_Digits.mono _ _
      | exact turncockref1_filled.mono _ _ _
      | exact turncockref1_ten.mono _ _
      | exact LeO.none _
      | refine LeO.ite ?_ ?_
      | refine LeO.bind ?_ (fun _ => ?_)
    · intro y0 y1 y2
      unfold turncockref1_Write.l0
      repeat' first
      | (with_reducible exact ih0 _ _)
      | (with_reducible exact ih1 _ _ _)
      | (with_reducible exact ih2 _ _ _ _ _)
      | (with_reducible exact ih3 _ _ _ _ _ _)
      | (with_reducible exact turncockref1_Digits.mono _ _)
      | (with_reducible exact turncockref1_filled.mono _ _ _)
      | (with_reducible exact turncockref1_ten.mono _ _)
      | (with_reducible exact LeO.refl _)
      | (with_reducible exact LeO.none _)
      | (with_reducible refine LeO.ite ?_ ?_)
      | (with_reducible refine LeO.bind ?_ (fun _ => ?_))
      | exact ih0 _ _
      | exact ih1 _ _ _
      | exact ih2 _ _ _ _ _
      | exact ih3 _ _ _ _ _ _
      | exact turncockref1_Digits.mono _ _
      | exact turncockref1_filled.mono _ _ _
      | exact turncockref1_ten.mono _ _
      | exact LeO.none _
      | refine LeO.ite ?_ ?_
      | refine LeO.bind ?_ (fun _ => ?_)
    · intro y0 y1 y2 y3 y4
      unfold turncockref1_Write.l1
      repeat' first
      | (with_reducible exact ih0 _ _)
      | (with_reducible exact ih1 _ _ _)
      | (with_reducible exact ih2 _ _ _ _ _)
      | (with_reducible exact ih3 _ _ _ _ _ _)
      | (with_reducible exact turncockref1_Digits.mono _ _)
      | (with_reducible exact turncockref1_filled.mono _ _ _)
      | (with_reducible exact turncockref1_ten.mono _ _)
      | (with_reducible exact LeO.refl _)
      | (with_reducible exact LeO.none _)
      | (with_reducible refine LeO.ite ?_ ?_)
      | (with_reducible refine LeO.bind ?_ (fun _ => ?_))
      | exact ih0 _ _
      | exact ih1 _ _ _
      | exact ih2 _ _ _ _ _
      | exact ih3 _ _ _ _ _ _
      | exact turncockref1_Digits.mono _ _
      | exact turncockref1_filled.mono _ _ _
      | exact turncockref1_ten.mono _ _
      | exact LeO.none _
      | refine LeO.ite ?_ ?_
      | refine LeO.bind ?_ (fun _ => ?_)
    · intro y0 y1 y2 y3 y4 y5
      unfold turncockref1_Write.j3
      repeat' first
      | (with_reducible exact ih0 _ _)
      | (with_reducible exact ih1 _ _ _)
      | (with_reducible exact ih2 _ _ _ _ _)
      | (with_reducible exact ih3 _ _ _ _ _ _)
      | (with_reducible exact turncockref1_Digits.mono _ _)
      | (with_reducible exact turncockref1_filled.mono _ _ _)
      | (with_reducible exact turncockref1_ten.mono _ _)
      | (with_reducible exact LeO.refl _)
      | (with_reducible exact LeO.none _)
      | (with_reducible refine LeO.ite ?_ ?_)
      | (with_reducible refine LeO.bind ?_ (fun _ => ?_))
      | exact ih0 _ _
      | exact ih1 _ _ _
      | exact ih2 _ _ _ _ _
      | exact ih3 _ _ _ _ _ _
      | exact turncockref1_Digits.mono _ _
      | exact turncockref1_filled.mono _ _ _
      | exact turncockref1_ten.mono _ _
      | exact LeO.none _
      | refine LeO.ite ?_ ?_
      | refine LeO.bind ?_ (fun _ => ?_)
theorem turncockref1_Write.mono : ∀ a0 k, LeO (turncockref1_Write.f k a0) (turncockref1_Write.f (k + 1) a0) := by
  intro a0 k
  obtain ⟨ih0, ih1, ih2, ih3⟩ := turncockref1_Write.mono_l k
  unfold turncockref1_Write.f
  repeat' first
      | (with_reducible exact ih0 _ _)
      | (with_reducible exact ih1 _ _ _)
      | (with_reducible exact ih2 _ _ _ _ _)
      | (with_reducible exact ih3 _ _ _ _ _ _)
      | (with_reducible exact turncockref1_Digits.mono _ _)
      | (with_reducible exact turncockref1_filled.mono _ _ _)
      | (with_reducible exact turncockref1_ten.mono _ _)
      | (with_reducible exact LeO.refl _)
      | (with_reducible exact LeO.none _)
      | (with_reducible refine LeO.ite ?_ ?_)
      | (with_reducible refine LeO.bind ?_ (fun _ => ?_))
      | exact ih0 _ _
      | exact ih1 _ _ _
      | exact ih2 _ _ _ _ _
      | exact ih3 _ _ _ _ _ _
      | exact turncockref1_Digits.mono _ _
      | exact turncockref1_filled.mono _ _ _
      | exact turncockref1_ten.mono _ _
      | exact LeO.none _
      | refine LeO.ite ?_ ?_
      | refine LeO.bind ?_ (fun _ => ?_)
set_option maxHeartbeats 8000000 in
set_option maxRecDepth 100000 in
theorem turncockref1_Write.calls (k : Nat) (a0 : Nat) (r1 : ByteArray) (r2 : Bool) (w : World) (h : turncockref1_Write.f k a0 = some (r1, r2)) :
    Calls Try.prog 37 #[.float .f64 a0] w fun e w' => e = .returned (.tuple #[.string r1, .bool r2]) ∧ Below w.heap.size w w' := by
  have HB := Aside0.mk (Below.refl w.heap.size w)
  have H : ((math_IsNaN.f a0).bind fun t116 => (if t116 = true then (some ((⟨#[110, 97, 110]⟩ : ByteArray), true)) else ((math_Signbit.f a0).bind fun t117 => (if t117 = true then (turncockref1_Write.j0 k a0 (⟨#[45]⟩ : ByteArray)) else (turncockref1_Write.j0 k a0 (⟨#[]⟩ : ByteArray)))))) = some (r1, r2) := h
  clear h
  replace H := Option.bind_eq_some_iff.mp H
  obtain ⟨t116, A20, H⟩ := H
  replace H : (if t116 = true then (some ((⟨#[110, 97, 110]⟩ : ByteArray), true)) else ((math_Signbit.f a0).bind fun t117 => (if t117 = true then (turncockref1_Write.j0 k a0 (⟨#[45]⟩ : ByteArray)) else (turncockref1_Write.j0 k a0 (⟨#[]⟩ : ByteArray))))) = some (r1, r2) := H
  have A2 := Aside0.mk A20
  clear A20
  by_cases c3 : t116 = true
  · subst c3
    have H1 : (some ((⟨#[110, 97, 110]⟩ : ByteArray), true)) = some (r1, r2) := by rw [if_pos rfl] at H; exact H
    clear H
    have H := H1
    clear H1
    simp only [Option.some.injEq, Prod.mk.injEq] at H
    obtain ⟨rfl, rfl⟩ := H
    go_enter Try.func37, Try.ntmps37
    go_wp2_with (first | ((with_reducible refine gate_callee (f := 53) rfl ?_); refine goesL_ (some 12) rfl rfl Try.func53 (by kernel_rfl) rfl #[.float .f64 a0] rfl (by (try simp only [List.map_toArray, List.map_cons, List.map_nil]); first | done | rfl | (simp only [List.length_drop, List.length_take]; rfl)) ?_; (with_reducible refine (math_IsNaN.calls a0 true _ A2.out).mono ?_); rintro e w' ⟨rfl, ⟨nd, rfl⟩⟩; refine ⟨_, rfl, ?_⟩))
    go_ret2
    exact ⟨by first | rfl | (simp [errW_none, errW_some] <;> rfl) | (simp [*, errW_none, errW_some] <;> rfl), by repeat (first | (with_reducible first | exact HB.out | apply below_alloc | apply pw_below_drewN | apply below_drew1) | exact HB.out)⟩
  · replace c3 := Bool.eq_false_iff.mpr c3
    subst c3
    have H1 : ((math_Signbit.f a0).bind fun t117 => (if t117 = true then (turncockref1_Write.j0 k a0 (⟨#[45]⟩ : ByteArray)) else (turncockref1_Write.j0 k a0 (⟨#[]⟩ : ByteArray)))) = some (r1, r2) := by rw [if_neg (show ¬ (false = true) by decide)] at H; exact H
    clear H
    have H := H1
    clear H1
    replace H := Option.bind_eq_some_iff.mp H
    obtain ⟨t117, A40, H⟩ := H
    replace H : (if t117 = true then (turncockref1_Write.j0 k a0 (⟨#[45]⟩ : ByteArray)) else (turncockref1_Write.j0 k a0 (⟨#[]⟩ : ByteArray))) = some (r1, r2) := H
    have A4 := Aside0.mk A40
    clear A40
    have HC5 := Aside0.mk H
    clear H
    go_enter Try.func37, Try.ntmps37
    go_upto_if 14 with (first | ((with_reducible refine gate_callee (f := 53) rfl ?_); refine goesL_ (some 12) rfl rfl Try.func53 (by kernel_rfl) rfl #[.float .f64 a0] rfl (by (try simp only [List.map_toArray, List.map_cons, List.map_nil]); first | done | rfl | (simp only [List.length_drop, List.length_take]; rfl)) ?_; (with_reducible refine (math_IsNaN.calls a0 false _ A2.out).mono ?_); rintro e w' ⟨rfl, ⟨nd, rfl⟩⟩; refine ⟨_, rfl, ?_⟩) | ((with_reducible refine gate_callee (f := 54) rfl ?_); refine goesL_ (some 14) rfl rfl Try.func54 (by kernel_rfl) rfl #[.float .f64 a0] rfl (by (try simp only [List.map_toArray, List.map_cons, List.map_nil]); first | done | rfl | (simp only [List.length_drop, List.length_take]; rfl)) ?_; (with_reducible refine (math_Signbit.calls a0 t117 _ A4.out).mono ?_); rintro e w' ⟨rfl, ⟨nd, rfl⟩⟩; refine ⟨_, rfl, ?_⟩))
    (try simp only [Act.put, List.setIfInBounds_toArray, List.set_cons_zero, List.set_cons_succ])
    go_cut [4] (fun v4 wc => ∃ (kq : Nat) (x4_4 : ByteArray), v4 = .string x4_4 ∧ Aside0 (turncockref1_Write.j0 kq a0 x4_4 = some (r1, r2)) ∧ Aside0 (kq ≤ k) ∧ Aside0 (Below w.heap.size w wc))
    case first =>
      have H := HC5.out
      clear HC5
      by_cases c6 : t117 = true
      · subst c6
        have H1 : (turncockref1_Write.j0 k a0 (⟨#[45]⟩ : ByteArray)) = some (r1, r2) := by rw [if_pos rfl] at H; exact H
        clear H
        have H := H1
        clear H1
        have H' := Aside0.mk H
        clear H
        go_wp2
        go_meet
        case rel => exact ⟨_, ((⟨#[45]⟩ : ByteArray)), (by first | rfl | (simp; done) | (simp [*]; done)), H', ⟨by first | omega | exact Nat.le_refl _⟩, ⟨by repeat (first | (with_reducible first | exact HB.out | apply below_alloc | apply pw_below_drewN | apply below_drew1) | exact HB.out)⟩⟩
      · replace c6 := Bool.eq_false_iff.mpr c6
        subst c6
        have H1 : (turncockref1_Write.j0 k a0 (⟨#[]⟩ : ByteArray)) = some (r1, r2) := by rw [if_neg (show ¬ (false = true) by decide)] at H; exact H
        clear H
        have H := H1
        clear H1
        have H' := Aside0.mk H
        clear H
        go_wp2
        go_meet
        case rel => exact ⟨_, ((⟨#[]⟩ : ByteArray)), (by first | rfl | (simp; done) | (simp [*]; done)), H', ⟨by first | omega | exact Nat.le_refl _⟩, ⟨by repeat (first | (with_reducible first | exact HB.out | apply below_alloc | apply pw_below_drewN | apply below_drew1) | exact HB.out)⟩⟩
    case rest =>
      clear HC5
      try clear p2
      try clear c3
      try clear c5
      try clear c6
      obtain ⟨kq, x4_4, rfl, HA, HJ4, HB⟩ := hcut
      cases kq with
      | zero => exact absurd HA.out (by simp [turncockref1_Write.j0])
      | succ kj4 =>
        have H := HA.out
        clear HA
        simp only [turncockref1_Write.j0] at H
        replace H := Option.bind_eq_some_iff.mp H
        obtain ⟨t118, A70, H⟩ := H
        replace H : (if t118 = true then (if x4_4.size + 3 ≤ 9223372036854775807 then (some (x4_4 ++ (⟨#[105, 110, 102]⟩ : ByteArray), true)) else (none)) else ((math_Abs.f a0).bind fun t119 => (if (fge t119 4741671816366391296) = true then (some ((⟨#[]⟩ : ByteArray), false)) else (turncockref1_Write.l0 kj4 x4_4 t119 0)))) = some (r1, r2) := H
        have A7 := Aside0.mk A70
        clear A70
        by_cases c8 : t118 = true
        · subst c8
          have H1 : (if x4_4.size + 3 ≤ 9223372036854775807 then (some (x4_4 ++ (⟨#[105, 110, 102]⟩ : ByteArray), true)) else (none)) = some (r1, r2) := by rw [if_pos rfl] at H; exact H
          clear H
          have H := H1
          clear H1
          by_cases c9 : x4_4.size + 3 ≤ 9223372036854775807
          · rw [if_pos c9] at H
            have c9b0 := eq_true c9
            have c9b1 : decide (x4_4.size + 3 ≤ 9223372036854775807) = true := decide_eq_true c9
            try have c9b2 : (9223372036854775807 < x4_4.size + 3) = False := eq_false (Nat.not_lt.2 c9)
            simp only [Option.some.injEq, Prod.mk.injEq] at H
            obtain ⟨rfl, rfl⟩ := H
            go_wp2_with (first | ((with_reducible refine gate_callee (f := 55) rfl ?_); refine goesL_ (some 16) rfl rfl Try.func55 (by kernel_rfl) rfl #[.float .f64 a0, .int .i64 0] rfl (by (try simp only [List.map_toArray, List.map_cons, List.map_nil]); first | done | rfl | (simp only [List.length_drop, List.length_take]; rfl)) ?_; (with_reducible refine (math_IsInf.calls a0 0 true _ A7.out).mono ?_); rintro e w' ⟨rfl, ⟨nd, rfl⟩⟩; refine ⟨_, rfl, ?_⟩))
            go_ret2
            exact ⟨by first | rfl | (simp [errW_none, errW_some] <;> rfl) | (simp [*, errW_none, errW_some] <;> rfl), by repeat (first | (with_reducible first | exact HB.out | apply below_alloc | apply pw_below_drewN | apply below_drew1) | exact HB.out)⟩
          · rw [if_neg c9] at H
            exact absurd H (by simp)
        · replace c8 := Bool.eq_false_iff.mpr c8
          subst c8
          have H1 : ((math_Abs.f a0).bind fun t119 => (if (fge t119 4741671816366391296) = true then (some ((⟨#[]⟩ : ByteArray), false)) else (turncockref1_Write.l0 kj4 x4_4 t119 0))) = some (r1, r2) := by rw [if_neg (show ¬ (false = true) by decide)] at H; exact H
          clear H
          have H := H1
          clear H1
          replace H := Option.bind_eq_some_iff.mp H
          obtain ⟨t119, A100, H⟩ := H
          replace H : (if (fge t119 4741671816366391296) = true then (some ((⟨#[]⟩ : ByteArray), false)) else (turncockref1_Write.l0 kj4 x4_4 t119 0)) = some (r1, r2) := H
          have A10 := Aside0.mk A100
          clear A100
          by_cases c11 : (fge t119 4741671816366391296) = true
          · rw [if_pos c11] at H
            have c11b0 : (fge t119 4741671816366391296) = true := c11
            clear c11
            simp only [Option.some.injEq, Prod.mk.injEq] at H
            obtain ⟨rfl, rfl⟩ := H
            go_wp2_with (first | ((with_reducible refine gate_callee (f := 55) rfl ?_); refine goesL_ (some 16) rfl rfl Try.func55 (by kernel_rfl) rfl #[.float .f64 a0, .int .i64 0] rfl (by (try simp only [List.map_toArray, List.map_cons, List.map_nil]); first | done | rfl | (simp only [List.length_drop, List.length_take]; rfl)) ?_; (with_reducible refine (math_IsInf.calls a0 0 false _ A7.out).mono ?_); rintro e w' ⟨rfl, ⟨nd, rfl⟩⟩; refine ⟨_, rfl, ?_⟩) | ((with_reducible refine gate_callee (f := 56) rfl ?_); refine goesL_ (some 20) rfl rfl Try.func56 (by kernel_rfl) rfl #[.float .f64 a0] rfl (by (try simp only [List.map_toArray, List.map_cons, List.map_nil]); first | done | rfl | (simp only [List.length_drop, List.length_take]; rfl)) ?_; (with_reducible refine (math_Abs.calls a0 t119 _ A10.out).mono ?_); rintro e w' ⟨rfl, ⟨nd, rfl⟩⟩; refine ⟨_, rfl, ?_⟩))
            go_ret2
            exact ⟨by first | rfl | (simp [errW_none, errW_some] <;> rfl) | (simp [*, errW_none, errW_some] <;> rfl), by repeat (first | (with_reducible first | exact HB.out | apply below_alloc | apply pw_below_drewN | apply below_drew1) | exact HB.out)⟩
          · rw [if_neg c11] at H
            have c11b0 : (fge t119 4741671816366391296) = false := by simpa using c11
            clear c11
            have H' := Aside0.mk H
            clear H
            go_wp2_with (first | ((with_reducible refine gate_callee (f := 55) rfl ?_); refine goesL_ (some 16) rfl rfl Try.func55 (by kernel_rfl) rfl #[.float .f64 a0, .int .i64 0] rfl (by (try simp only [List.map_toArray, List.map_cons, List.map_nil]); first | done | rfl | (simp only [List.length_drop, List.length_take]; rfl)) ?_; (with_reducible refine (math_IsInf.calls a0 0 false _ A7.out).mono ?_); rintro e w' ⟨rfl, ⟨nd, rfl⟩⟩; refine ⟨_, rfl, ?_⟩) | ((with_reducible refine gate_callee (f := 56) rfl ?_); refine goesL_ (some 20) rfl rfl Try.func56 (by kernel_rfl) rfl #[.float .f64 a0] rfl (by (try simp only [List.map_toArray, List.map_cons, List.map_nil]); first | done | rfl | (simp only [List.length_drop, List.length_take]; rfl)) ?_; (with_reducible refine (math_Abs.calls a0 t119 _ A10.out).mono ?_); rintro e w' ⟨rfl, ⟨nd, rfl⟩⟩; refine ⟨_, rfl, ?_⟩))
            go_loopg [6] kj4 (fun kq v6 w' => ∃ (x6_2 : Int), v6 = .int .i64 x6_2 ∧ Aside0 (turncockref1_Write.l0 kq x4_4 t119 x6_2 = some (r1, r2)) ∧ Aside0 (kq ≤ kj4) ∧ Aside0 (Below w.heap.size w w'))
            case atStart => exact ⟨(0), (by first | rfl | (simp; done) | (simp [*]; done)), H', ⟨Nat.le_refl _⟩, ⟨by repeat (first | (with_reducible first | exact HB.out | apply below_alloc | apply pw_below_drewN | apply below_drew1) | exact HB.out)⟩⟩
            case round =>
              clear H'
              try clear c1
              try clear p2
              try clear c3
              try clear c5
              try clear c6
              try clear c8
              try clear c9
              try clear c9b0
              try clear c9b1
              try clear c9b2
              try clear c11
              try clear c11b0
              try clear p2
              obtain ⟨x6_2, rfl, HA, HK2, HB⟩ := hrel
              cases gk with
              | zero => exact absurd HA.out (by simp [turncockref1_Write.l0])
              | succ k2 =>
                have H := HA.out
                clear HA
                simp only [turncockref1_Write.l0] at H
                by_cases c12 : x6_2 ≤ 6
                · rw [if_pos c12] at H
                  have c12b0 : decide (x6_2 ≤ 6) = true := decide_eq_true c12
                  clear c12
                  replace H := Option.bind_eq_some_iff.mp H
                  obtain ⟨t120, A130, H⟩ := H
                  replace H : (if (fmulOk t119 (fofi t120)) = true then ((math_Floor.f (fmul t119 (fofi t120))).bind fun t121 => (if (f2iOk t121) = true then (turncockref1_Write.l1 k2 x4_4 t119 x6_2 (f2i t121) (wrap64 ((f2i t121) - 1))) else (none))) else (none)) = some (r1, r2) := H
                  have A13 := Aside0.mk A130
                  clear A130
                  by_cases c14 : (fmulOk t119 (fofi t120)) = true
                  · rw [if_pos c14] at H
                    have c14b0 := eq_true c14
                    have c14b1 : decide ((fmulOk t119 (fofi t120)) = true) = true := decide_eq_true c14
                    clear c14
                    replace H := Option.bind_eq_some_iff.mp H
                    obtain ⟨t121, A150, H⟩ := H
                    replace H : (if (f2iOk t121) = true then (turncockref1_Write.l1 k2 x4_4 t119 x6_2 (f2i t121) (wrap64 ((f2i t121) - 1))) else (none)) = some (r1, r2) := H
                    have A15 := Aside0.mk A150
                    clear A150
                    by_cases c16 : (f2iOk t121) = true
                    · rw [if_pos c16] at H
                      have c16b0 := eq_true c16
                      have c16b1 : decide ((f2iOk t121) = true) = true := decide_eq_true c16
                      clear c16
                      have H' := Aside0.mk H
                      clear H
                      go_wp2_with (first | ((with_reducible refine gate_callee (f := 57) rfl ?_); refine goesL_ (some 29) rfl rfl Try.func57 (by kernel_rfl) rfl #[.int .i64 x6_2] rfl (by (try simp only [List.map_toArray, List.map_cons, List.map_nil]); first | done | rfl | (simp only [List.length_drop, List.length_take]; rfl)) ?_; (with_reducible refine (turncockref1_ten.calls k2 x6_2 t120 _ A13.out).mono ?_); rintro e w' ⟨rfl, ⟨nd, rfl⟩⟩; refine ⟨_, rfl, ?_⟩) | ((with_reducible refine gate_callee (f := 58) rfl ?_); refine goesL_ (some 33) rfl rfl Try.func58 (by kernel_rfl) rfl #[.float .f64 (fmul t119 (fofi t120))] rfl (by (try simp only [List.map_toArray, List.map_cons, List.map_nil]); first | done | rfl | (simp only [List.length_drop, List.length_take]; rfl)) ?_; (with_reducible refine (math_Floor.calls (fmul t119 (fofi t120)) t121 _ A15.out).mono ?_); rintro e w' ⟨rfl, ⟨nd, rfl⟩⟩; refine ⟨_, rfl, ?_⟩))
                      go_loopg [9] k2 (fun kq v9 w' => ∃ (x9_3 : Int), v9 = .int .i64 x9_3 ∧ Aside0 (turncockref1_Write.l1 kq x4_4 t119 x6_2 (f2i t121) x9_3 = some (r1, r2)) ∧ Aside0 (kq ≤ k2) ∧ Aside0 (Below w.heap.size w w'))
                      case atStart => exact ⟨(wrap64 ((f2i t121) - 1)), (by first | rfl | (simp; done) | (simp [*]; done)), H', ⟨Nat.le_refl _⟩, ⟨by repeat (first | (with_reducible first | exact HB.out | apply below_alloc | apply pw_below_drewN | apply below_drew1) | exact HB.out)⟩⟩
                      case round =>
                        clear H'
                        try clear c1
                        try clear p2
                        try clear c3
                        try clear c5
                        try clear c6
                        try clear p6
                        try clear c8
                        try clear c9
                        try clear c9b0
                        try clear c9b1
                        try clear c9b2
                        try clear c11
                        try clear c11b0
                        try clear c12
                        try clear c12b0
                        try clear c14
                        try clear c14b0
                        try clear c14b1
                        try clear c16
                        try clear c16b0
                        try clear c16b1
                        try clear p2
                        obtain ⟨x9_3, rfl, HA, HK3, HB⟩ := hrel
                        cases gk with
                        | zero => exact absurd HA.out (by simp [turncockref1_Write.l1])
                        | succ k3 =>
                          have H := HA.out
                          clear HA
                          simp only [turncockref1_Write.l1] at H
                          by_cases c17 : x9_3 ≤ (wrap64 ((f2i t121) + 1))
                          · rw [if_pos c17] at H
                            have c17b0 : decide (x9_3 ≤ (wrap64 ((f2i t121) + 1))) = true := decide_eq_true c17
                            clear c17
                            have HC18 := Aside0.mk H
                            clear H
                            go_upto_region 19 with (fail)
                            go_cut [61] (fun v61 wc => ∃ (kq : Nat) (x61_17 : Bool), v61 = .bool x61_17 ∧ Aside0 (turncockref1_Write.j3 kq x4_4 t119 x6_2 (f2i t121) x9_3 x61_17 = some (r1, r2)) ∧ Aside0 (kq ≤ k3) ∧ Aside0 (Below w.heap.size w wc))
                            case first =>
                              have H := HC18.out
                              clear HC18
                              by_cases c19 : x9_3 < 0
                              · rw [if_pos c19] at H
                                have c19b0 : decide (x9_3 < 0) = true := decide_eq_true c19
                                clear c19
                                (first | rw [c19b0] | (simp only [i64_w, i32_w]; rw [c19b0]) | skip)
                                have H' := Aside0.mk H
                                clear H
                                go_wp2
                                go_meet
                                case rel => exact ⟨_, (true), (by first | rfl | (simp; done) | (simp [*]; done)), H', ⟨by have := HJ4.out; have := HK2.out; have := HK3.out; first | omega | exact Nat.le_refl _⟩, ⟨by repeat (first | (with_reducible first | exact HB.out | apply below_alloc | apply pw_below_drewN | apply below_drew1) | exact HB.out)⟩⟩
                              · rw [if_neg c19] at H
                                have c19b0 : decide (x9_3 < 0) = false := decide_eq_false c19
                                clear c19
                                (first | rw [c19b0] | (simp only [i64_w, i32_w]; rw [c19b0]) | skip)
                                replace H := Option.bind_eq_some_iff.mp H
                                obtain ⟨t122, A200, H⟩ := H
                                replace H : (if t122 = 0 then (none) else (if (wrap64 (Int.tdiv x9_3 t122)) > 999999999 then (turncockref1_Write.j3 k3 x4_4 t119 x6_2 (f2i t121) x9_3 true) else (if (fquoOk (fofi x9_3) (fofi t122)) = true then (turncockref1_Write.j3 k3 x4_4 t119 x6_2 (f2i t121) x9_3 (fne (fquo (fofi x9_3) (fofi t122)) t119)) else (none)))) = some (r1, r2) := H
                                have A20 := Aside0.mk A200
                                clear A200
                                by_cases c21 : t122 = 0
                                · rw [if_pos c21] at H
                                  exact absurd H (by simp)
                                · rw [if_neg c21] at H
                                  have c21b0 : (t122 == 0) = false := beq_eq_false_iff_ne.mpr c21
                                  have c21b1 : (t122 != 0) = true := bne_iff_ne.mpr c21
                                  by_cases c22 : (wrap64 (Int.tdiv x9_3 t122)) > 999999999
                                  · rw [if_pos c22] at H
                                    have c22b0 : decide (999999999 < (wrap64 (Int.tdiv x9_3 t122))) = true := decide_eq_true c22
                                    clear c22
                                    have H' := Aside0.mk H
                                    clear H
                                    go_wp2_with (first | (go_at_call 57; (with_reducible refine (turncockref1_ten.calls k3 x6_2 t122 _ A20.out).mono ?_); rintro e w' ⟨rfl, ⟨nd, rfl⟩⟩))
                                    go_meet
                                    case rel => exact ⟨_, (true), (by first | rfl | (simp; done) | (simp [*]; done)), H', ⟨by have := HJ4.out; have := HK2.out; have := HK3.out; first | omega | exact Nat.le_refl _⟩, ⟨by repeat (first | (with_reducible first | exact HB.out | apply below_alloc | apply pw_below_drewN | apply below_drew1) | exact HB.out)⟩⟩
                                  · rw [if_neg c22] at H
                                    have c22b0 : decide (999999999 < (wrap64 (Int.tdiv x9_3 t122))) = false := decide_eq_false c22
                                    clear c22
                                    by_cases c23 : (fquoOk (fofi x9_3) (fofi t122)) = true
                                    · rw [if_pos c23] at H
                                      have c23b0 := eq_true c23
                                      have c23b1 : decide ((fquoOk (fofi x9_3) (fofi t122)) = true) = true := decide_eq_true c23
                                      clear c23
                                      have H' := Aside0.mk H
                                      clear H
                                      go_wp2_with (first | (go_at_call 57; (with_reducible refine (turncockref1_ten.calls k3 x6_2 t122 _ A20.out).mono ?_); rintro e w' ⟨rfl, ⟨nd, rfl⟩⟩))
                                      go_meet
                                      case rel => exact ⟨_, ((fne (fquo (fofi x9_3) (fofi t122)) t119)), (by first | rfl | (simp; done) | (simp [*]; done)), H', ⟨by have := HJ4.out; have := HK2.out; have := HK3.out; first | omega | exact Nat.le_refl _⟩, ⟨by repeat (first | (with_reducible first | exact HB.out | apply below_alloc | apply pw_below_drewN | apply below_drew1) | exact HB.out)⟩⟩
                                    · rw [if_neg c23] at H
                                      exact absurd H (by simp)
                            case rest =>
                              clear HC18
                              try clear c1
                              try clear c2
                              try clear p2
                              try clear c3
                              try clear c5
                              try clear c6
                              try clear p6
                              try clear c8
                              try clear c9
                              try clear c9b0
                              try clear c9b1
                              try clear c9b2
                              try clear c11
                              try clear c11b0
                              try clear c12
                              try clear c12b0
                              try clear c14
                              try clear c14b0
                              try clear c14b1
                              try clear c16
                              try clear c16b0
                              try clear c16b1
                              try clear c17
                              try clear c17b0
                              try clear c19
                              try clear c19b0
                              try clear c21
                              try clear c21b0
                              try clear c21b1
                              try clear c22
                              try clear c22b0
                              try clear c23
                              try clear c23b0
                              try clear c23b1
                              try clear p2
                              try clear p6
                              obtain ⟨kq, x61_17, rfl, HA, HJ17, HB⟩ := hcut
                              cases kq with
                              | zero => exact absurd HA.out (by simp [turncockref1_Write.j3])
                              | succ kj17 =>
                                have H := HA.out
                                clear HA
                                simp only [turncockref1_Write.j3] at H
                                by_cases c24 : x61_17 = true
                                · subst c24
                                  have H1 : (turncockref1_Write.l1 kj17 x4_4 t119 x6_2 (f2i t121) (wrap64 (x9_3 + 1))) = some (r1, r2) := by rw [if_pos rfl] at H; exact H
                                  clear H
                                  have H := H1
                                  clear H1
                                  have H' := Aside0.mk H
                                  clear H
                                  go_wp2
                                  go_roundg kj17
                                  case measure => have := HJ4.out; have := HK2.out; have := HK3.out; have := HJ17.out; omega
                                  case rel => exact ⟨(wrap64 (x9_3 + 1)), (by first | rfl | (simp; done) | (simp [*]; done)), H', ⟨by have := HJ4.out; have := HK2.out; have := HK3.out; have := HJ17.out; omega⟩, ⟨by repeat (first | (with_reducible first | exact HB.out | apply below_alloc | apply pw_below_drewN | apply below_drew1) | exact HB.out)⟩⟩
                                · replace c24 := Bool.eq_false_iff.mpr c24
                                  subst c24
                                  have H1 : ((turncockref1_ten.f kj17 x6_2).bind fun t123 => (if t123 = 0 then (none) else ((turncockref1_Digits.f kj17 (wrap64 (Int.tdiv x9_3 t123))).bind fun t124 => (if x4_4.size + t124.size ≤ 9223372036854775807 then (if x6_2 > 0 then (if x4_4.size + t124.size + 1 ≤ 9223372036854775807 then ((turncockref1_ten.f kj17 x6_2).bind fun t125 => (if t125 = 0 then (none) else ((turncockref1_filled.f kj17 (Int.tmod x9_3 t125) x6_2).bind fun t126 => (if x4_4.size + t124.size + 1 + t126.size ≤ 9223372036854775807 then (some (((x4_4 ++ t124) ++ (⟨#[46]⟩ : ByteArray)) ++ t126, true)) else (none))))) else (none)) else (some (x4_4 ++ t124, true))) else (none))))) = some (r1, r2) := by rw [if_neg (show ¬ (false = true) by decide)] at H; exact H
                                  clear H
                                  have H := H1
                                  clear H1
                                  replace H := Option.bind_eq_some_iff.mp H
                                  obtain ⟨t123, A250, H⟩ := H
                                  replace H : (if t123 = 0 then (none) else ((turncockref1_Digits.f kj17 (wrap64 (Int.tdiv x9_3 t123))).bind fun t124 => (if x4_4.size + t124.size ≤ 9223372036854775807 then (if x6_2 > 0 then (if x4_4.size + t124.size + 1 ≤ 9223372036854775807 then ((turncockref1_ten.f kj17 x6_2).bind fun t125 => (if t125 = 0 then (none) else ((turncockref1_filled.f kj17 (Int.tmod x9_3 t125) x6_2).bind fun t126 => (if x4_4.size + t124.size + 1 + t126.size ≤ 9223372036854775807 then (some (((x4_4 ++ t124) ++ (⟨#[46]⟩ : ByteArray)) ++ t126, true)) else (none))))) else (none)) else (some (x4_4 ++ t124, true))) else (none)))) = some (r1, r2) := H
                                  have A25 := Aside0.mk A250
                                  clear A250
                                  by_cases c26 : t123 = 0
                                  · rw [if_pos c26] at H
                                    exact absurd H (by simp)
                                  · rw [if_neg c26] at H
                                    have c26b0 : (t123 == 0) = false := beq_eq_false_iff_ne.mpr c26
                                    have c26b1 : (t123 != 0) = true := bne_iff_ne.mpr c26
                                    replace H := Option.bind_eq_some_iff.mp H
                                    obtain ⟨t124, A270, H⟩ := H
                                    replace H : (if x4_4.size + t124.size ≤ 9223372036854775807 then (if x6_2 > 0 then (if x4_4.size + t124.size + 1 ≤ 9223372036854775807 then ((turncockref1_ten.f kj17 x6_2).bind fun t125 => (if t125 = 0 then (none) else ((turncockref1_filled.f kj17 (Int.tmod x9_3 t125) x6_2).bind fun t126 => (if x4_4.size + t124.size + 1 + t126.size ≤ 9223372036854775807 then (some (((x4_4 ++ t124) ++ (⟨#[46]⟩ : ByteArray)) ++ t126, true)) else (none))))) else (none)) else (some (x4_4 ++ t124, true))) else (none)) = some (r1, r2) := H
                                    have A27 := Aside0.mk A270
                                    clear A270
                                    by_cases c28 : x4_4.size + t124.size ≤ 9223372036854775807
                                    · rw [if_pos c28] at H
                                      have c28b0 := eq_true c28
                                      have c28b1 : decide (x4_4.size + t124.size ≤ 9223372036854775807) = true := decide_eq_true c28
                                      try have c28b2 : (9223372036854775807 < x4_4.size + t124.size) = False := eq_false (Nat.not_lt.2 c28)
                                      by_cases c29 : x6_2 > 0
                                      · rw [if_pos c29] at H
                                        have c29b0 : decide (0 < x6_2) = true := decide_eq_true c29
                                        clear c29
                                        by_cases c30 : x4_4.size + t124.size + 1 ≤ 9223372036854775807
                                        · rw [if_pos c30] at H
                                          have c30b0 := eq_true c30
                                          have c30b1 : decide (x4_4.size + t124.size + 1 ≤ 9223372036854775807) = true := decide_eq_true c30
                                          try have c30b2 : (9223372036854775807 < x4_4.size + t124.size + 1) = False := eq_false (Nat.not_lt.2 c30)
                                          replace H := Option.bind_eq_some_iff.mp H
                                          obtain ⟨t125, A310, H⟩ := H
                                          replace H : (if t125 = 0 then (none) else ((turncockref1_filled.f kj17 (Int.tmod x9_3 t125) x6_2).bind fun t126 => (if x4_4.size + t124.size + 1 + t126.size ≤ 9223372036854775807 then (some (((x4_4 ++ t124) ++ (⟨#[46]⟩ : ByteArray)) ++ t126, true)) else (none)))) = some (r1, r2) := H
                                          have A31 := Aside0.mk A310
                                          clear A310
                                          by_cases c32 : t125 = 0
                                          · rw [if_pos c32] at H
                                            exact absurd H (by simp)
                                          · rw [if_neg c32] at H
                                            have c32b0 : (t125 == 0) = false := beq_eq_false_iff_ne.mpr c32
                                            have c32b1 : (t125 != 0) = true := bne_iff_ne.mpr c32
                                            replace H := Option.bind_eq_some_iff.mp H
                                            obtain ⟨t126, A330, H⟩ := H
                                            replace H : (if x4_4.size + t124.size + 1 + t126.size ≤ 9223372036854775807 then (some (((x4_4 ++ t124) ++ (⟨#[46]⟩ : ByteArray)) ++ t126, true)) else (none)) = some (r1, r2) := H
                                            have A33 := Aside0.mk A330
                                            clear A330
                                            by_cases c34 : x4_4.size + t124.size + 1 + t126.size ≤ 9223372036854775807
                                            · rw [if_pos c34] at H
                                              have c34b0 := eq_true c34
                                              have c34b1 : decide (x4_4.size + t124.size + 1 + t126.size ≤ 9223372036854775807) = true := decide_eq_true c34
                                              try have c34b2 : (9223372036854775807 < x4_4.size + t124.size + 1 + t126.size) = False := eq_false (Nat.not_lt.2 c34)
                                              simp only [Option.some.injEq, Prod.mk.injEq] at H
                                              obtain ⟨rfl, rfl⟩ := H
                                              go_wp2_with (first | ((with_reducible refine gate_callee (f := 57) rfl ?_); refine goesL_ (some 65) rfl rfl Try.func57 (by kernel_rfl) rfl #[.int .i64 x6_2] rfl (by (try simp only [List.map_toArray, List.map_cons, List.map_nil]); first | done | rfl | (simp only [List.length_drop, List.length_take]; rfl)) ?_; (with_reducible refine (turncockref1_ten.calls kj17 x6_2 t123 _ A25.out).mono ?_); rintro e w' ⟨rfl, ⟨nd, rfl⟩⟩; refine ⟨_, rfl, ?_⟩) | ((with_reducible refine gate_callee (f := 44) rfl ?_); refine goesL_ (some 67) rfl rfl Try.func44 (by kernel_rfl) rfl #[.int .i64 (wrap64 (Int.tdiv x9_3 t123))] rfl (by (try simp only [List.map_toArray, List.map_cons, List.map_nil]); first | done | rfl | (simp only [List.length_drop, List.length_take]; rfl)) ?_; (with_reducible refine (turncockref1_Digits.calls kj17 (wrap64 (Int.tdiv x9_3 t123)) t124 _ A27.out).mono ?_); rintro e w35 ⟨rfl, hb⟩; refine ⟨_, rfl, ?_⟩; have n0_ := Aside0.mk (below_step (by repeat (first | (with_reducible first | exact HB.out | apply below_alloc | apply pw_below_drewN | apply below_drew1) | exact HB.out)) hb); clear HB; have HB := n0_; clear n0_; (try clear hb); (try clear hb2); (try clear hk); (try clear hi)) | ((with_reducible refine gate_callee (f := 57) rfl ?_); refine goesL_ (some 75) rfl rfl Try.func57 (by kernel_rfl) rfl #[.int .i64 x6_2] rfl (by (try simp only [List.map_toArray, List.map_cons, List.map_nil]); first | done | rfl | (simp only [List.length_drop, List.length_take]; rfl)) ?_; (with_reducible refine (turncockref1_ten.calls kj17 x6_2 t125 _ A31.out).mono ?_); rintro e w' ⟨rfl, ⟨nd, rfl⟩⟩; refine ⟨_, rfl, ?_⟩) | ((with_reducible refine gate_callee (f := 59) rfl ?_); refine goesL_ (some 78) rfl rfl Try.func59 (by kernel_rfl) rfl #[.int .i64 (Int.tmod x9_3 t125), .int .i64 x6_2] rfl (by (try simp only [List.map_toArray, List.map_cons, List.map_nil]); first | done | rfl | (simp only [List.length_drop, List.length_take]; rfl)) ?_; (with_reducible refine (turncockref1_filled.calls kj17 (Int.tmod x9_3 t125) x6_2 t126 _ A33.out).mono ?_); rintro e w36 ⟨rfl, hb⟩; refine ⟨_, rfl, ?_⟩; have n0_ := Aside0.mk (below_step (by repeat (first | (with_reducible first | exact HB.out | apply below_alloc | apply pw_below_drewN | apply below_drew1) | exact HB.out)) hb); clear HB; have HB := n0_; clear n0_; (try clear hb); (try clear hb2); (try clear hk); (try clear hi)))
                                              go_ret2
                                              exact ⟨by first | rfl | (simp [errW_none, errW_some] <;> rfl) | (simp [*, errW_none, errW_some] <;> rfl), by repeat (first | (with_reducible first | exact HB.out | apply below_alloc | apply pw_below_drewN | apply below_drew1) | exact HB.out)⟩
                                            · rw [if_neg c34] at H
                                              exact absurd H (by simp)
                                        · rw [if_neg c30] at H
                                          exact absurd H (by simp)
                                      · rw [if_neg c29] at H
                                        have c29b0 : decide (0 < x6_2) = false := decide_eq_false c29
                                        clear c29
                                        simp only [Option.some.injEq, Prod.mk.injEq] at H
                                        obtain ⟨rfl, rfl⟩ := H
                                        go_wp2_with (first | ((with_reducible refine gate_callee (f := 57) rfl ?_); refine goesL_ (some 65) rfl rfl Try.func57 (by kernel_rfl) rfl #[.int .i64 x6_2] rfl (by (try simp only [List.map_toArray, List.map_cons, List.map_nil]); first | done | rfl | (simp only [List.length_drop, List.length_take]; rfl)) ?_; (with_reducible refine (turncockref1_ten.calls kj17 x6_2 t123 _ A25.out).mono ?_); rintro e w' ⟨rfl, ⟨nd, rfl⟩⟩; refine ⟨_, rfl, ?_⟩) | ((with_reducible refine gate_callee (f := 44) rfl ?_); refine goesL_ (some 67) rfl rfl Try.func44 (by kernel_rfl) rfl #[.int .i64 (wrap64 (Int.tdiv x9_3 t123))] rfl (by (try simp only [List.map_toArray, List.map_cons, List.map_nil]); first | done | rfl | (simp only [List.length_drop, List.length_take]; rfl)) ?_; (with_reducible refine (turncockref1_Digits.calls kj17 (wrap64 (Int.tdiv x9_3 t123)) t124 _ A27.out).mono ?_); rintro e w37 ⟨rfl, hb⟩; refine ⟨_, rfl, ?_⟩; have n0_ := Aside0.mk (below_step (by repeat (first | (with_reducible first | exact HB.out | apply below_alloc | apply pw_below_drewN | apply below_drew1) | exact HB.out)) hb); clear HB; have HB := n0_; clear n0_; (try clear hb); (try clear hb2); (try clear hk); (try clear hi)))
                                        go_ret2
                                        exact ⟨by first | rfl | (simp [errW_none, errW_some] <;> rfl) | (simp [*, errW_none, errW_some] <;> rfl), by repeat (first | (with_reducible first | exact HB.out | apply below_alloc | apply pw_below_drewN | apply below_drew1) | exact HB.out)⟩
                                    · rw [if_neg c28] at H
                                      exact absurd H (by simp)
                          · rw [if_neg c17] at H
                            have c17b0 : decide (x9_3 ≤ (wrap64 ((f2i t121) + 1))) = false := decide_eq_false c17
                            clear c17
                            have H' := Aside0.mk H
                            clear H
                            go_wp2
                            go_roundg k3
                            case measure => have := HJ4.out; have := HK2.out; have := HK3.out; omega
                            case rel => exact ⟨(wrap64 (x6_2 + 1)), (by first | rfl | (simp; done) | (simp [*]; done)), H', ⟨by have := HJ4.out; have := HK2.out; have := HK3.out; omega⟩, ⟨by repeat (first | (with_reducible first | exact HB.out | apply below_alloc | apply pw_below_drewN | apply below_drew1) | exact HB.out)⟩⟩
                    · rw [if_neg c16] at H
                      exact absurd H (by simp)
                  · rw [if_neg c14] at H
                    exact absurd H (by simp)
                · rw [if_neg c12] at H
                  have c12b0 : decide (x6_2 ≤ 6) = false := decide_eq_false c12
                  clear c12
                  simp only [Option.some.injEq, Prod.mk.injEq] at H
                  obtain ⟨rfl, rfl⟩ := H
                  go_wp2
                  go_ret2
                  exact ⟨by first | rfl | (simp [errW_none, errW_some] <;> rfl) | (simp [*, errW_none, errW_some] <;> rfl), by repeat (first | (with_reducible first | exact HB.out | apply below_alloc | apply pw_below_drewN | apply below_drew1) | exact HB.out)⟩

end Go.Proofs.Ytofebccpghkmgaa.PJudgeSums
