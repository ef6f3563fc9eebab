-- WRITTEN BY THIS SESSION'S mprint.py upon the print: some functions are proved by hand
import Derived.Test.YtofebccpghkmgaaPJudgeSumsx3
import Derived.Test.YtofebccpghkmgaaPJudgeSumsx0
namespace Go.Proofs.Ytofebccpghkmgaa.PJudgeSums
open Go.RowKit Go.Proofs.YtofebccpghkmgaaW.PrintWords Go.Proofs.YtofebccpghkmgaaW.PrintLast Go.Proofs.YtofebccpghkmgaaW.PrintMore
attribute [local go_sem] max2_int min2_int max_two min_two max_three min_three max_four min_four   -- for this text's walks alone
set_option linter.unusedVariables false
set_option linter.unusedSimpArgs false

/-! ### ratio_ten: function 61 -/
def ratio_ten.l0 : Nat → Int → Int → Int → Option (Int)
  | 0, _, _, _ => none
  | k + 1, x3, x4, x5 => if x5 < x4 then (ratio_ten.l0 k (wrap64 (x3 * 10)) x4 (wrap64 (x5 + 1))) else (some x3)
def ratio_ten.f (k : Nat) (a0 : Int) : Option (Int) := ratio_ten.l0 k 1 a0 0
theorem ratio_ten.mono_l : ∀ k, (∀ y0 y1 y2, LeO (ratio_ten.l0 k y0 y1 y2) (ratio_ten.l0 (k + 1) y0 y1 y2))
  | 0 => fun _ _ _ r h => by simp [ratio_ten.l0] at h
  | k + 1 => by
    have ih0 := ratio_ten.mono_l k
    · intro y0 y1 y2
      unfold ratio_ten.l0
      repeat' first
      | (with_reducible exact ih0 _ _ _)
      | (with_reducible exact LeO.refl _)
      | (with_reducible exact LeO.none _)
      | (with_reducible refine LeO.ite ?_ ?_)
      | (with_reducible refine LeO.bind ?_ (fun _ => ?_))
      | exact ih0 _ _ _
      | exact LeO.none _
      | refine LeO.ite ?_ ?_
      | refine LeO.bind ?_ (fun _ => ?_)
theorem ratio_ten.mono : ∀ a0 k, LeO (ratio_ten.f k a0) (ratio_ten.f (k + 1) a0) := by
  intro a0 k
  have ih0 := ratio_ten.mono_l k
  unfold ratio_ten.f
  repeat' first
      | (with_reducible exact ih0 _ _ _)
      | (with_reducible exact LeO.refl _)
      | (with_reducible exact LeO.none _)
      | (with_reducible refine LeO.ite ?_ ?_)
      | (with_reducible refine LeO.bind ?_ (fun _ => ?_))
      | exact ih0 _ _ _
      | exact LeO.none _
      | refine LeO.ite ?_ ?_
      | refine LeO.bind ?_ (fun _ => ?_)
set_option maxHeartbeats 8000000 in
set_option maxRecDepth 100000 in
theorem ratio_ten.calls (k : Nat) (a0 : Int) (r : Int) (w : World) (h : ratio_ten.f k a0 = some r) :
    Calls Try.prog 61 #[.int .i64 a0] w fun e w' => e = .returned (.int .i64 r) ∧ Drawn0 w w' := by
  have H : (ratio_ten.l0 k 1 a0 0) = some r := h
  clear h
  have H' := Aside0.mk H
  clear H
  go_enter Try.func61, Try.ntmps61
  go_wp2
  go_loopg [3, 5] k (fun kq v3 v5 w' => ∃ (x3_1 : Int) (x5_1 : Int), v3 = .int .i64 x3_1 ∧ v5 = .int .i64 x5_1 ∧ Aside0 (ratio_ten.l0 kq x3_1 a0 x5_1 = some r) ∧ Aside0 (kq ≤ k) ∧ Drawn0 w w')
  case atStart => exact ⟨(1), (0), (by first | rfl | (simp; done) | (simp [*]; done)), (by first | rfl | (simp; done) | (simp [*]; done)), H', ⟨Nat.le_refl _⟩, by repeat (first | exact Drawn0.refl _ | apply Drawn0.step)⟩
  case round =>
    clear H'
    obtain ⟨x3_1, x5_1, rfl, rfl, HA, HK1, ⟨m1, rfl⟩⟩ := hrel
    cases gk with
    | zero => exact absurd HA.out (by simp [ratio_ten.l0])
    | succ k1 =>
      have H := HA.out
      clear HA
      simp only [ratio_ten.l0] at H
      by_cases c2 : x5_1 < a0
      · rw [if_pos c2] at H
        have c2b0 : decide (x5_1 < a0) = true := decide_eq_true c2
        clear c2
        have H' := Aside0.mk H
        clear H
        go_wp2
        go_roundg k1
        case measure => have := HK1.out; omega
        case rel => exact ⟨(wrap64 (x3_1 * 10)), (wrap64 (x5_1 + 1)), (by first | rfl | (simp; done) | (simp [*]; done)), (by first | rfl | (simp; done) | (simp [*]; done)), H', ⟨by have := HK1.out; omega⟩, by repeat (first | exact Drawn0.refl _ | apply Drawn0.step)⟩
      · rw [if_neg c2] at H
        have c2b0 : decide (x5_1 < a0) = false := decide_eq_false c2
        clear c2
        obtain rfl := Option.some.inj H
        go_wp2
        go_ret
        exact ⟨by first | rfl | (simp; done) | (simp [*]; done), by repeat (first | exact Drawn0.refl _ | apply Drawn0.step)⟩

/-! ### math_NaN: function 83 (my own) -/
def math_NaN.f : Option (Nat) := some 9221120237041090561
set_option maxRecDepth 100000 in
theorem math_NaN.calls (r : Nat) (w : World) (h : math_NaN.f = some r) :
    Calls Try.prog 83 #[] w fun e w' => e = .returned (.float .f64 r) ∧ Drawn0 w w' := by
  obtain rfl := Option.some.inj h
  clear h
  go_enter Try.func83, Try.ntmps83
  go_wp2
  go_ret
  exact ⟨by first | rfl | simp, by repeat (first | exact Drawn0.refl _ | apply Drawn0.step)⟩

/-! ### math_Inf: function 84 (my own) -/
def math_Inf.f (a0 : Int) : Option (Nat) := if a0 ≥ 0 then some 9218868437227405312 else some 18442240474082181120
set_option maxRecDepth 100000 in
theorem math_Inf.calls (a0 : Int) (r : Nat) (w : World) (h : math_Inf.f a0 = some r) :
    Calls Try.prog 84 #[.int .i64 a0] w fun e w' => e = .returned (.float .f64 r) ∧ Drawn0 w w' := by
  unfold math_Inf.f at h
  by_cases h0 : a0 ≥ 0
  · rw [if_pos h0] at h
    obtain rfl := Option.some.inj h
    have hb : decide (0 ≤ a0) = true := decide_eq_true h0
    clear h h0
    go_enter Try.func84, Try.ntmps84
    go_wp2
    go_ret
    exact ⟨by first | rfl | simp, by repeat (first | exact Drawn0.refl _ | apply Drawn0.step)⟩
  · rw [if_neg h0] at h
    obtain rfl := Option.some.inj h
    have hb : decide (0 ≤ a0) = false := decide_eq_false h0
    clear h h0
    go_enter Try.func84, Try.ntmps84
    go_wp2
    go_ret
    exact ⟨by first | rfl | simp, by repeat (first | exact Drawn0.refl _ | apply Drawn0.step)⟩

/-! ### stringslite_HasPrefix: function 110 -/
def stringslite_HasPrefix.f (a0 : ByteArray) (a1 : ByteArray) : Option (Bool) := if (a0.size : Int) ≥ (a1.size : Int) then (if 0 ≤ (a1.size : Int) then (if (a1.size : Int) ≤ (a0.size : Int) then (some ((a0.extract 0 ((a1.size : Int) : Int).toNat).toList == a1.toList)) else (none)) else (none)) else (some false)
set_option maxHeartbeats 8000000 in
set_option maxRecDepth 100000 in
theorem stringslite_HasPrefix.calls (a0 : ByteArray) (a1 : ByteArray) (r : Bool) (w : World) (h : stringslite_HasPrefix.f a0 a1 = some r) :
    Calls Try.prog 110 #[.string a0, .string a1] w fun e w' => e = .returned (.bool r) ∧ Drawn0 w w' := by
  have H : (if (a0.size : Int) ≥ (a1.size : Int) then (if 0 ≤ (a1.size : Int) then (if (a1.size : Int) ≤ (a0.size : Int) then (some ((a0.extract 0 ((a1.size : Int) : Int).toNat).toList == a1.toList)) else (none)) else (none)) else (some false)) = some r := h
  clear h
  by_cases c3 : (a0.size : Int) ≥ (a1.size : Int)
  · rw [if_pos c3] at H
    have c3b0 : decide ((a1.size : Int) ≤ (a0.size : Int)) = true := decide_eq_true c3
    have c3b1 : decide (a1.size ≤ a0.size) = true := decide_eq_true (Int.ofNat_le.mp c3)
    clear c3
    by_cases c4 : 0 ≤ (a1.size : Int)
    · rw [if_pos c4] at H
      have c4b0 := eq_true c4
      have c4b1 : decide (0 ≤ (a1.size : Int)) = true := decide_eq_true c4
      clear c4
      by_cases c5 : (a1.size : Int) ≤ (a0.size : Int)
      · rw [if_pos c5] at H
        have c5b0 := eq_true c5
        have c5b1 : decide ((a1.size : Int) ≤ (a0.size : Int)) = true := decide_eq_true c5
        clear c5
        obtain rfl := Option.some.inj H
        go_enter Try.func110, Try.ntmps110
        go_wp2
        go_ret
        exact ⟨by first | rfl | (simp; done) | (simp [*]; done), by repeat (first | exact Drawn0.refl _ | apply Drawn0.step)⟩
      · rw [if_neg c5] at H
        exact absurd H (by simp)
    · rw [if_neg c4] at H
      exact absurd H (by simp)
  · rw [if_neg c3] at H
    have c3b0 : decide ((a1.size : Int) ≤ (a0.size : Int)) = false := decide_eq_false c3
    have c3b1 : decide (a1.size ≤ a0.size) = false := decide_eq_false (fun h => c3 (Int.ofNat_le.mpr h))
    clear c3
    obtain rfl := Option.some.inj H
    go_enter Try.func110, Try.ntmps110
    go_wp2
    go_ret
    exact ⟨by first | rfl | (simp; done) | (simp [*]; done), by repeat (first | exact Drawn0.refl _ | apply Drawn0.step)⟩

/-! ### stringslite_CutPrefix: function 101 -/
def stringslite_CutPrefix.f (a0 : ByteArray) (a1 : ByteArray) : Option (ByteArray × Bool) := (stringslite_HasPrefix.f a0 a1).bind fun t176 => (if t176 = true then (if 0 ≤ (a1.size : Int) then (if (a1.size : Int) ≤ (a0.size : Int) then (some (a0.extract ((a1.size : Int) : Int).toNat a0.size, true)) else (none)) else (none)) else (some (a0, false)))
set_option maxHeartbeats 8000000 in
set_option maxRecDepth 100000 in
theorem stringslite_CutPrefix.calls (a0 : ByteArray) (a1 : ByteArray) (r1 : ByteArray) (r2 : Bool) (w : World) (h : stringslite_CutPrefix.f a0 a1 = some (r1, r2)) :
    Calls Try.prog 101 #[.string a0, .string a1] w fun e w' => e = .returned (.tuple #[.string r1, .bool r2]) ∧ Drawn0 w w' := by
  have H : ((stringslite_HasPrefix.f a0 a1).bind fun t176 => (if t176 = true then (if 0 ≤ (a1.size : Int) then (if (a1.size : Int) ≤ (a0.size : Int) then (some (a0.extract ((a1.size : Int) : Int).toNat a0.size, true)) else (none)) else (none)) else (some (a0, false)))) = some (r1, r2) := h
  clear h
  replace H := Option.bind_eq_some_iff.mp H
  obtain ⟨t176, A30, H⟩ := H
  replace H : (if t176 = true then (if 0 ≤ (a1.size : Int) then (if (a1.size : Int) ≤ (a0.size : Int) then (some (a0.extract ((a1.size : Int) : Int).toNat a0.size, true)) else (none)) else (none)) else (some (a0, false))) = some (r1, r2) := H
  have A3 := Aside0.mk A30
  clear A30
  by_cases c4 : t176 = true
  · subst c4
    have H1 : (if 0 ≤ (a1.size : Int) then (if (a1.size : Int) ≤ (a0.size : Int) then (some (a0.extract ((a1.size : Int) : Int).toNat a0.size, true)) else (none)) else (none)) = some (r1, r2) := by rw [if_pos rfl] at H; exact H
    clear H
    have H := H1
    clear H1
    by_cases c5 : 0 ≤ (a1.size : Int)
    · rw [if_pos c5] at H
      have c5b0 := eq_true c5
      have c5b1 : decide (0 ≤ (a1.size : Int)) = true := decide_eq_true c5
      clear c5
      by_cases c6 : (a1.size : Int) ≤ (a0.size : Int)
      · rw [if_pos c6] at H
        have c6b0 := eq_true c6
        have c6b1 : decide ((a1.size : Int) ≤ (a0.size : Int)) = true := decide_eq_true c6
        clear c6
        simp only [Option.some.injEq, Prod.mk.injEq] at H
        obtain ⟨rfl, rfl⟩ := H
        go_enter Try.func101, Try.ntmps101
        go_wp2_with (first | ((with_reducible refine gate_callee (f := 110) rfl ?_); refine goesL_ (some 8) rfl rfl Try.func110 (by kernel_rfl) rfl #[.string a0, .string a1] rfl (by (try simp only [List.map_toArray, List.map_cons, List.map_nil]); first | done | rfl | (simp only [List.length_drop, List.length_take]; rfl)) ?_; (with_reducible refine (stringslite_HasPrefix.calls a0 a1 true _ A3.out).mono ?_); rintro e w' ⟨rfl, ⟨nd, rfl⟩⟩; refine ⟨_, rfl, ?_⟩))
        go_ret2
        exact ⟨by first | rfl | (simp; done) | (simp [*]; done), by repeat (first | exact Drawn0.refl _ | apply Drawn0.step)⟩
      · rw [if_neg c6] at H
        exact absurd H (by simp)
    · rw [if_neg c5] at H
      exact absurd H (by simp)
  · replace c4 := Bool.eq_false_iff.mpr c4
    subst c4
    have H1 : (some (a0, false)) = some (r1, r2) := by rw [if_neg (show ¬ (false = true) by decide)] at H; exact H
    clear H
    have H := H1
    clear H1
    simp only [Option.some.injEq, Prod.mk.injEq] at H
    obtain ⟨rfl, rfl⟩ := H
    go_enter Try.func101, Try.ntmps101
    go_wp2_with (first | ((with_reducible refine gate_callee (f := 110) rfl ?_); refine goesL_ (some 8) rfl rfl Try.func110 (by kernel_rfl) rfl #[.string a0, .string a1] rfl (by (try simp only [List.map_toArray, List.map_cons, List.map_nil]); first | done | rfl | (simp only [List.length_drop, List.length_take]; rfl)) ?_; (with_reducible refine (stringslite_HasPrefix.calls a0 a1 false _ A3.out).mono ?_); rintro e w' ⟨rfl, ⟨nd, rfl⟩⟩; refine ⟨_, rfl, ?_⟩))
    go_ret2
    exact ⟨by first | rfl | (simp; done) | (simp [*]; done), by repeat (first | exact Drawn0.refl _ | apply Drawn0.step)⟩

/-! ### strings_CutPrefix: function 85 -/
def strings_CutPrefix.f (a0 : ByteArray) (a1 : ByteArray) : Option (ByteArray × Bool) := (stringslite_CutPrefix.f a0 a1).bind fun bt177 => (some (bt177.1, bt177.2))
set_option maxHeartbeats 8000000 in
set_option maxRecDepth 100000 in
theorem strings_CutPrefix.calls (a0 : ByteArray) (a1 : ByteArray) (r1 : ByteArray) (r2 : Bool) (w : World) (h : strings_CutPrefix.f a0 a1 = some (r1, r2)) :
    Calls Try.prog 85 #[.string a0, .string a1] w fun e w' => e = .returned (.tuple #[.string r1, .bool r2]) ∧ Drawn0 w w' := by
  have H : ((stringslite_CutPrefix.f a0 a1).bind fun bt177 => (some (bt177.1, bt177.2))) = some (r1, r2) := h
  clear h
  replace H := Option.bind_eq_some_iff.mp H
  obtain ⟨⟨t177, t178⟩, A30, H⟩ := H
  replace H : (some (t177, t178)) = some (r1, r2) := H
  have A3 := Aside0.mk A30
  clear A30
  simp only [Option.some.injEq, Prod.mk.injEq] at H
  obtain ⟨rfl, rfl⟩ := H
  go_enter Try.func85, Try.ntmps85
  go_wp2_with (first | ((with_reducible refine gate_callee (f := 101) rfl ?_); refine goesL_ (some 8) rfl rfl Try.func101 (by kernel_rfl) rfl #[.string a0, .string a1] rfl (by (try simp only [List.map_toArray, List.map_cons, List.map_nil]); first | done | rfl | (simp only [List.length_drop, List.length_take]; rfl)) ?_; (with_reducible refine (stringslite_CutPrefix.calls a0 a1 t177 t178 _ A3.out).mono ?_); rintro e w' ⟨rfl, ⟨nd, rfl⟩⟩; refine ⟨_, rfl, ?_⟩))
  go_ret2
  exact ⟨by first | rfl | (simp; done) | (simp [*]; done), by repeat (first | exact Drawn0.refl _ | apply Drawn0.step)⟩

/-! ### strings_Cut: function 86 (my own) -/
def strings_Cut.f (a0 : ByteArray) (a1 : ByteArray) : Option (ByteArray × ByteArray × Bool) := if a1.size = 1 ∧ a0.size ≤ 9000000000000000000 then some (⟨(Lib.cut a0.data.toList a1.data.toList).1.toArray⟩, ⟨(Lib.cut a0.data.toList a1.data.toList).2.1.toArray⟩, (Lib.cut a0.data.toList a1.data.toList).2.2) else none
set_option maxRecDepth 100000 in
theorem strings_Cut.lite (s : ByteArray) (c : UInt8) (hs : s.size ≤ 9000000000000000000) (w : World) :
    Calls Try.prog 102 #[.string s, .string ⟨#[c]⟩] w fun e w' => e = .returned (.tuple #[.string ⟨(Lib.cut s.data.toList [c]).1.toArray⟩, .string ⟨(Lib.cut s.data.toList [c]).2.1.toArray⟩, .bool (Lib.cut s.data.toList [c]).2.2]) ∧ Drawn0 w w' := by
  have hz : (⟨#[c]⟩ : ByteArray).size = 1 := rfl
  have hone : Lib.indexB s ⟨#[c]⟩ = Lib.indexByte s.data.toList c := Lib.index_one _ _
  rcases Lib.indexB_cases s ⟨#[c]⟩ with hix | ⟨i, hix, hroom⟩
  · obtain ⟨e1, e2, e3⟩ := Lib.cutB_miss s ⟨#[c]⟩ hix
    have g1 : (Lib.cut s.data.toList [c]).1.toArray = s.data := congrArg ByteArray.data e1
    have g2 : (⟨(Lib.cut s.data.toList [c]).2.1.toArray⟩ : ByteArray) = ⟨#[]⟩ := e2
    have g3 : (Lib.cut s.data.toList [c]).2.2 = false := e3
    have H1 := Aside0.mk e1
    have H2 := Aside0.mk g2
    have H3 := Aside0.mk g3
    have HI := Aside0.mk (hone.symm.trans hix)
    clear e1 e2 e3 g1 g2 g3 hone hix
    go_enter Try.func102, Try.ntmps102
    go_wp2_with fail
    refine (Try.stringslite_Index_one s c _).mono ?_; rintro e w' ⟨rfl, rfl⟩
    rw [HI.out]
    go_wp2
    go_ret3
    exact ⟨by rw [H3.out, H2.out]; rw [show (⟨(Lib.cut s.data.toList [c]).1.toArray⟩ : ByteArray) = s from H1.out]; rfl, Drawn0.refl _⟩
  · obtain ⟨e1, e2, e3⟩ := Lib.cutB_hit s ⟨#[c]⟩ i hix
    have c1 : (0 : Int) ≤ ↑i := by omega
    have c2 : (↑i : Int) ≤ ↑s.size := by omega
    have c3 : (0 : Int) ≤ ↑i + 1 := by omega
    have c4 : (↑i + 1 : Int) ≤ ↑s.size := by omega
    have c5 : i ≤ s.size := by omega
    have c6 : i + 1 ≤ s.size := by omega
    have H1 := Aside0.mk e1
    have H2 := Aside0.mk e2
    have H3 := Aside0.mk e3
    have HI := Aside0.mk (hone.symm.trans hix)
    clear e1 e2 e3 hone hix
    go_enter Try.func102, Try.ntmps102
    go_wp2_with fail
    refine (Try.stringslite_Index_one s c _).mono ?_; rintro e w' ⟨rfl, rfl⟩
    rw [HI.out]
    go_wp2
    go_quiet (fail)
    go_wp2
    go_ret3
    exact ⟨by rw [H1.out, H2.out, H3.out]; rfl, Drawn0.step (Drawn0.refl _) _⟩
theorem strings_Cut.calls (a0 : ByteArray) (a1 : ByteArray) (r1 : ByteArray) (r2 : ByteArray) (r3 : Bool) (w : World) (h : strings_Cut.f a0 a1 = some (r1, r2, r3)) :
    Calls Try.prog 86 #[.string a0, .string a1] w fun e w' => e = .returned (.tuple #[.string r1, .string r2, .bool r3]) ∧ Drawn0 w w' := by
  unfold strings_Cut.f at h
  split at h
  · rename_i hb
    obtain ⟨c, rfl⟩ := Lib.one_byte a1 hb.1
    have h2 := Option.some.inj h
    obtain rfl := (Prod.mk.inj h2).1
    obtain rfl := (Prod.mk.inj (Prod.mk.inj h2).2).1
    obtain rfl := (Prod.mk.inj (Prod.mk.inj h2).2).2
    clear h h2
    have hs := hb.2
    clear hb
    go_enter Try.func86, Try.ntmps86
    go_wp2_with fail
    (with_reducible refine (strings_Cut.lite a0 c hs _).mono ?_); rintro e w' ⟨rfl, ⟨nd, rfl⟩⟩
    go_wp2
    go_ret3
    exact ⟨rfl, by repeat (first | exact Drawn0.refl _ | apply Drawn0.step)⟩
  · cases h

/-! ### ratio_digits: function 87 (my own) -/
def ratio_digits.l0 : Nat → ByteArray → Int → Nat → Option (Bool)
  | 0, _, _, _ => none
  | k + 1, s, m, pos => if pos < s.size then (if ((Utf8.decode s pos).1 : Int) < 48 then (some false) else (if ((Utf8.decode s pos).1 : Int) > 57 then (some false) else (ratio_digits.l0 k s m (pos + (Utf8.decode s pos).2)))) else (if (s.size : Int) ≥ 1 then (if (s.size : Int) ≤ m then some true else some false) else some false)
def ratio_digits.f (k : Nat) (a0 : ByteArray) (a1 : Int) : Option (Bool) := ratio_digits.l0 k a0 a1 0
theorem ratio_digits.mono_l : ∀ k, (∀ y0 y1 y2, LeO (ratio_digits.l0 k y0 y1 y2) (ratio_digits.l0 (k + 1) y0 y1 y2))
  | 0 => fun _ _ _ r h => by simp [ratio_digits.l0] at h
  | k + 1 => by
    have ih0 := ratio_digits.mono_l k
    intro y0 y1 y2
    unfold ratio_digits.l0
    repeat' first
      | (with_reducible exact ih0 _ _ _)
      | (with_reducible exact LeO.refl _)
      | (with_reducible exact LeO.none _)
      | (with_reducible refine LeO.ite ?_ ?_)
      | (with_reducible refine LeO.bind ?_ (fun _ => ?_))
      | exact ih0 _ _ _
      | exact LeO.none _
      | refine LeO.ite ?_ ?_
      | refine LeO.bind ?_ (fun _ => ?_)
theorem ratio_digits.mono : ∀ a0 a1 k, LeO (ratio_digits.f k a0 a1) (ratio_digits.f (k + 1) a0 a1) := fun a0 a1 k => ratio_digits.mono_l k a0 a1 0
set_option maxHeartbeats 8000000 in
set_option maxRecDepth 100000 in
theorem ratio_digits.calls (k : Nat) (a0 : ByteArray) (a1 : Int) (r : Bool) (w : World) (h : ratio_digits.f k a0 a1 = some r) :
    Calls Try.prog 87 #[.string a0, .int .i64 a1] w fun e w' => e = .returned (.bool r) ∧ Below w.heap.size w w' := by
  have H : ratio_digits.l0 k a0 a1 0 = some r := h
  clear h
  have H' := Aside0.mk H
  clear H
  go_enter Try.func87, Try.ntmps87
  go_wp2
  go_loopg [4] k (fun kq v4 w' => ∃ (pos : Nat), v4 = .bool false ∧ Aside0 (ratio_digits.l0 kq a0 a1 pos = some r) ∧ Aside0 (w'.heap[w.heap.size]? = some (.stringIter a0 pos)) ∧ Aside0 (Below w.heap.size w w'))
  case atStart => exact ⟨0, rfl, H', ⟨World.iter_heap w a0 0⟩, ⟨(Below.refl _ _).alloc (Nat.le_refl _) _⟩⟩
  case round =>
    clear H'
    obtain ⟨pos, rfl, HA, hit, HB⟩ := hrel
    cases gk with
    | zero => exact absurd HA.out (by simp [ratio_digits.l0])
    | succ k1 =>
      have H := HA.out
      clear HA
      simp only [ratio_digits.l0] at H
      by_cases hp : pos < a0.size
      · rw [if_pos hp] at H
        have hnx : ∀ ty, (Instr.next (.pointer (some ⟨w.heap.size, 0, none⟩)) true ty).run Try.prog wr = _ := fun ty => Lib.run_next_any_at wr w.heap.size a0 pos ty hit.out hp
        have hit2 := Aside0.mk (Lib.iterAt_heap wr w.heap.size a0 pos (pos + (Utf8.decode a0 pos).2) hit.out)
        have hB2 := Aside0.mk (Lib.below_iterAt HB.out (k := w.heap.size) (Nat.le_refl _) a0 (pos + (Utf8.decode a0 pos).2))
        obtain ⟨W1, hW1⟩ : ∃ W1, W1 = wr.iterAt w.heap.size a0 (pos + (Utf8.decode a0 pos).2) := ⟨_, rfl⟩
        rw [← hW1] at hnx hit2 hB2
        clear hW1 hit HB
        have hc0 : (0 : Int) ≤ ((Utf8.decode a0 pos).1 : Int) := by omega
        generalize ((Utf8.decode a0 pos).1 : Int) = c at *
        generalize pos + (Utf8.decode a0 pos).2 = pos2 at *
        by_cases c1 : c < 48
        · rw [if_pos c1] at H
          have c1b : decide (c < 48) = true := decide_eq_true c1
          clear c1
          obtain rfl := Option.some.inj H
          go_wp2
          go_ret
          exact ⟨rfl, hB2.out⟩
        · rw [if_neg c1] at H
          have c1b : decide (c < 48) = false := decide_eq_false c1
          by_cases c2 : c > 57
          · rw [if_pos c2] at H
            have c2b : decide (57 < c) = true := decide_eq_true c2
            clear c1 c2
            obtain rfl := Option.some.inj H
            go_wp2
            go_ret
            exact ⟨rfl, hB2.out⟩
          · rw [if_neg c2] at H
            have c2b : decide (57 < c) = false := decide_eq_false c2
            have H' := Aside0.mk H
            clear H c1 c2
            go_wp2
            go_roundg k1
            case measure => omega
            case rel => exact ⟨pos2, rfl, H', hit2, hB2⟩
      · rw [if_neg hp] at H
        have hnx : ∀ ty, (Instr.next (.pointer (some ⟨w.heap.size, 0, none⟩)) true ty).run Try.prog wr = _ := fun ty => Lib.run_next_end_at wr w.heap.size a0 pos ty hit.out hp
        by_cases c3 : (a0.size : Int) ≥ 1
        · rw [if_pos c3] at H
          have c3b : decide (1 ≤ (a0.size : Int)) = true := decide_eq_true c3
          have c3c : decide (1 ≤ a0.size) = true := decide_eq_true (by omega)
          by_cases c4 : (a0.size : Int) ≤ a1
          · rw [if_pos c4] at H
            have c4b : decide ((a0.size : Int) ≤ a1) = true := decide_eq_true c4
            clear c3 c4 hp
            obtain rfl := Option.some.inj H
            go_wp2
            go_ret
            exact ⟨rfl, HB.out⟩
          · rw [if_neg c4] at H
            have c4b : decide ((a0.size : Int) ≤ a1) = false := decide_eq_false c4
            clear c3 c4 hp
            obtain rfl := Option.some.inj H
            go_wp2
            go_ret
            exact ⟨rfl, HB.out⟩
        · rw [if_neg c3] at H
          have c3b : decide (1 ≤ (a0.size : Int)) = false := decide_eq_false c3
          have c3c : decide (1 ≤ a0.size) = false := decide_eq_false (by omega)
          clear c3 hp
          obtain rfl := Option.some.inj H
          go_wp2
          go_ret
          exact ⟨rfl, HB.out⟩

/-! ### ratio_value: function 88 (my own) -/
def ratio_value.l0 : Nat → ByteArray → Nat → Int → Option (Int)
  | 0, _, _, _ => none
  | k + 1, s, pos, n => if pos < s.size then (if 48 ≤ ((Utf8.decode s pos).1 : Int) ∧ ((Utf8.decode s pos).1 : Int) ≤ 57 ∧ 0 ≤ n ∧ n ≤ 100000000000000000 then (ratio_value.l0 k s (pos + (Utf8.decode s pos).2) (10 * n + (((Utf8.decode s pos).1 : Int) - 48))) else none) else some n
def ratio_value.f (k : Nat) (a0 : ByteArray) : Option (Int) := ratio_value.l0 k a0 0 0
theorem ratio_value.mono_l : ∀ k, (∀ y0 y1 y2, LeO (ratio_value.l0 k y0 y1 y2) (ratio_value.l0 (k + 1) y0 y1 y2))
  | 0 => fun _ _ _ r h => by simp [ratio_value.l0] at h
  | k + 1 => by
    have ih0 := ratio_value.mono_l k
    intro y0 y1 y2
    unfold ratio_value.l0
    repeat' first
      | (with_reducible exact ih0 _ _ _)
      | (with_reducible exact LeO.refl _)
      | (with_reducible exact LeO.none _)
      | (with_reducible refine LeO.ite ?_ ?_)
      | (with_reducible refine LeO.bind ?_ (fun _ => ?_))
      | exact ih0 _ _ _
      | exact LeO.none _
      | refine LeO.ite ?_ ?_
      | refine LeO.bind ?_ (fun _ => ?_)
theorem ratio_value.mono : ∀ a0 k, LeO (ratio_value.f k a0) (ratio_value.f (k + 1) a0) := fun a0 k => ratio_value.mono_l k a0 0 0
set_option maxHeartbeats 8000000 in
set_option maxRecDepth 100000 in
theorem ratio_value.calls (k : Nat) (a0 : ByteArray) (r : Int) (w : World) (h : ratio_value.f k a0 = some r) :
    Calls Try.prog 88 #[.string a0] w fun e w' => e = .returned (.int .i64 r) ∧ Below w.heap.size w w' := by
  have H : ratio_value.l0 k a0 0 0 = some r := h
  clear h
  have H' := Aside0.mk H
  clear H
  go_enter Try.func88, Try.ntmps88
  go_wp2
  go_loopg [3] k (fun kq v3 w' => ∃ (pos : Nat) (n : Int), v3 = .int .i64 n ∧ Aside0 (ratio_value.l0 kq a0 pos n = some r) ∧ Aside0 (w'.heap[w.heap.size]? = some (.stringIter a0 pos)) ∧ Aside0 (Below w.heap.size w w'))
  case atStart => exact ⟨0, 0, rfl, H', ⟨World.iter_heap w a0 0⟩, ⟨(Below.refl _ _).alloc (Nat.le_refl _) _⟩⟩
  case round =>
    clear H'
    obtain ⟨pos, n, rfl, HA, hit, HB⟩ := hrel
    cases gk with
    | zero => exact absurd HA.out (by simp [ratio_value.l0])
    | succ k1 =>
      have H := HA.out
      clear HA
      simp only [ratio_value.l0] at H
      by_cases hp : pos < a0.size
      · rw [if_pos hp] at H
        have hnx : ∀ ty, (Instr.next (.pointer (some ⟨w.heap.size, 0, none⟩)) true ty).run Try.prog wr = _ := fun ty => Lib.run_next_any_at wr w.heap.size a0 pos ty hit.out hp
        have hit2 := Aside0.mk (Lib.iterAt_heap wr w.heap.size a0 pos (pos + (Utf8.decode a0 pos).2) hit.out)
        have hB2 := Aside0.mk (Lib.below_iterAt HB.out (k := w.heap.size) (Nat.le_refl _) a0 (pos + (Utf8.decode a0 pos).2))
        obtain ⟨W1, hW1⟩ : ∃ W1, W1 = wr.iterAt w.heap.size a0 (pos + (Utf8.decode a0 pos).2) := ⟨_, rfl⟩
        rw [← hW1] at hnx hit2 hB2
        clear hW1 hit HB
        generalize ((Utf8.decode a0 pos).1 : Int) = c at *
        generalize pos + (Utf8.decode a0 pos).2 = pos2 at *
        by_cases c1 : 48 ≤ c ∧ c ≤ 57 ∧ 0 ≤ n ∧ n ≤ 100000000000000000
        · rw [if_pos c1] at H
          obtain ⟨b1, b2, b3, b4⟩ := c1
          have hw1 : IntKind.i32.wrap (c - 48) = c - 48 := by rw [IntKind.wrap_i32]; omega
          have hw2 : wrap32 (c - 48) = c - 48 := by unfold wrap32; omega
          have HN := Aside0.mk H
          clear H
          go_wp2
          go_roundg k1
          case measure => omega
          case rel => exact ⟨pos2, _, by first | rfl | go_num, HN, hit2, hB2⟩
        · rw [if_neg c1] at H; cases H
      · rw [if_neg hp] at H
        have hnx : ∀ ty, (Instr.next (.pointer (some ⟨w.heap.size, 0, none⟩)) true ty).run Try.prog wr = _ := fun ty => Lib.run_next_end_at wr w.heap.size a0 pos ty hit.out hp
        clear hp
        obtain rfl := Option.some.inj H
        go_wp2
        go_ret
        exact ⟨rfl, HB.out⟩

/-! ### math_Copysign: function 89 (my own) -/
def math_Copysign.f (a0 : Nat) (a1 : Nat) : Option (Nat) := some (Go.bits .or .u64 (Go.bits .andNot .u64 (a0 : Int) 9223372036854775808) (Go.bits .and .u64 (a1 : Int) 9223372036854775808)).toNat
set_option maxRecDepth 100000 in
theorem math_Copysign.calls (a0 : Nat) (a1 : Nat) (r : Nat) (w : World) (h : math_Copysign.f a0 a1 = some r) :
    Calls Try.prog 89 #[.float .f64 a0, .float .f64 a1] w fun e w' => e = .returned (.float .f64 r) ∧ Drawn0 w w' := by
  obtain rfl := Option.some.inj h
  clear h
  go_enter Try.func89, Try.ntmps89
  go_wp2
  go_ret
  exact ⟨by first | rfl | simp, by repeat (first | exact Drawn0.refl _ | apply Drawn0.step)⟩

/-! ### ratio_Parse: function 63 -/
def ratio_Parse.j0 : Nat → Bool → ByteArray → ByteArray → Bool → Option (Nat × Bool)
  | 0, _, _, _, _ => none
  | k + 1, x4, x5, x6, x50 => if x50 = true then (some (0, false)) else (if x5.size + x6.size ≤ 9223372036854775807 then ((ratio_value.f k (x5 ++ x6)).bind fun t190 => ((ratio_ten.f k (x6.size : Int)).bind fun t191 => (if (fquoOk (fofi t190) (fofi t191)) = true then (if x4 = true then ((math_Copysign.f (fquo (fofi t190) (fofi t191)) 13830554455654793216).bind fun t192 => (some (t192, true))) else (some (fquo (fofi t190) (fofi t191), true))) else (none)))) else (none))
def ratio_Parse.f (k : Nat) (a0 : ByteArray) : Option (Nat × Bool) := if a0.toList = ([110, 97, 110] : List UInt8) then ((math_NaN.f).bind fun t179 => (some (t179, true))) else (if a0.toList = ([105, 110, 102] : List UInt8) then ((math_Inf.f 1).bind fun t180 => (some (t180, true))) else (if a0.toList = ([45, 105, 110, 102] : List UInt8) then ((math_Inf.f (-1)).bind fun t181 => (some (t181, true))) else ((strings_CutPrefix.f a0 (⟨#[45]⟩ : ByteArray)).bind fun bt182 => ((strings_Cut.f bt182.1 (⟨#[46]⟩ : ByteArray)).bind fun bt184 => ((ratio_digits.f k bt184.1 9).bind fun t187 => (if t187 = true then (if (bt184.1.size : Int) > 1 then (if 0 < (bt184.1.size : Int) then (if (bt bt184.1 0) = 48 then (ratio_Parse.j0 k bt182.2 bt184.1 bt184.2.1 true) else (if bt184.2.2 = true then ((ratio_digits.f k bt184.2.1 6).bind fun t188 => (ratio_Parse.j0 k bt182.2 bt184.1 bt184.2.1 (!t188))) else (ratio_Parse.j0 k bt182.2 bt184.1 bt184.2.1 false))) else (none)) else (if bt184.2.2 = true then ((ratio_digits.f k bt184.2.1 6).bind fun t189 => (ratio_Parse.j0 k bt182.2 bt184.1 bt184.2.1 (!t189))) else (ratio_Parse.j0 k bt182.2 bt184.1 bt184.2.1 false))) else (ratio_Parse.j0 k bt182.2 bt184.1 bt184.2.1 true)))))))
theorem ratio_Parse.mono_l : ∀ k, (∀ y0 y1 y2 y3, LeO (ratio_Parse.j0 k y0 y1 y2 y3) (ratio_Parse.j0 (k + 1) y0 y1 y2 y3))
  | 0 => fun _ _ _ _ r h => by simp [ratio_Parse.j0] at h
  | k + 1 => by
    have ih0 := ratio_Parse.mono_l k
    · intro y0 y1 y2 y3
      unfold ratio_Parse.j0
      repeat' first
      | (with_reducible exact ih0 _ _ _ _)
      | (with_reducible exact ratio_digits.mono _ _ _)
      | (with_reducible exact ratio_ten.mono _ _)
      | (with_reducible exact ratio_value.mono _ _)
      | (with_reducible exact LeO.refl _)
      | (with_reducible exact LeO.none _)
      | (with_reducible refine LeO.ite ?_ ?_)
      | (with_reducible refine LeO.bind ?_ (fun _ => ?_))
      | exact ih0 _ _ _ _
      | exact ratio_digits.mono _ _ _
      | exact ratio_ten.mono _ _
      | exact ratio_value.mono _ _
      | exact LeO.none _
      | refine LeO.ite ?_ ?_
      | refine LeO.bind ?_ (fun _ => ?_)
theorem ratio_Parse.mono : ∀ a0 k, LeO (ratio_Parse.f k a0) (ratio_Parse.f (k + 1) a0) := by
  intro a0 k
  have ih0 := ratio_Parse.mono_l k
  unfold ratio_Parse.f
  repeat' first
      | (with_reducible exact ih0 _ _ _ _)
      | (with_reducible exact ratio_digits.mono _ _ _)
      | (with_reducible exact ratio_ten.mono _ _)
      | (with_reducible exact ratio_value.mono _ _)
      | (with_reducible exact LeO.refl _)
      | (with_reducible exact LeO.none _)
      | (with_reducible refine LeO.ite ?_ ?_)
      | (with_reducible refine LeO.bind ?_ (fun _ => ?_))
      | exact ih0 _ _ _ _
      | exact ratio_digits.mono _ _ _
      | exact ratio_ten.mono _ _
      | exact ratio_value.mono _ _
      | exact LeO.none _
      | refine LeO.ite ?_ ?_
      | refine LeO.bind ?_ (fun _ => ?_)
set_option maxHeartbeats 8000000 in
set_option maxRecDepth 100000 in
theorem ratio_Parse.calls (k : Nat) (a0 : ByteArray) (r1 : Nat) (r2 : Bool) (w : World) (h : ratio_Parse.f k a0 = some (r1, r2)) :
    Calls Try.prog 63 #[.string a0] w fun e w' => e = .returned (.tuple #[.float .f64 r1, .bool r2]) ∧ Below w.heap.size w w' := by
  have HB := Aside0.mk (Below.refl w.heap.size w)
  have H : (if a0.toList = ([110, 97, 110] : List UInt8) then ((math_NaN.f).bind fun t179 => (some (t179, true))) else (if a0.toList = ([105, 110, 102] : List UInt8) then ((math_Inf.f 1).bind fun t180 => (some (t180, true))) else (if a0.toList = ([45, 105, 110, 102] : List UInt8) then ((math_Inf.f (-1)).bind fun t181 => (some (t181, true))) else ((strings_CutPrefix.f a0 (⟨#[45]⟩ : ByteArray)).bind fun bt182 => ((strings_Cut.f bt182.1 (⟨#[46]⟩ : ByteArray)).bind fun bt184 => ((ratio_digits.f k bt184.1 9).bind fun t187 => (if t187 = true then (if (bt184.1.size : Int) > 1 then (if 0 < (bt184.1.size : Int) then (if (bt bt184.1 0) = 48 then (ratio_Parse.j0 k bt182.2 bt184.1 bt184.2.1 true) else (if bt184.2.2 = true then ((ratio_digits.f k bt184.2.1 6).bind fun t188 => (ratio_Parse.j0 k bt182.2 bt184.1 bt184.2.1 (!t188))) else (ratio_Parse.j0 k bt182.2 bt184.1 bt184.2.1 false))) else (none)) else (if bt184.2.2 = true then ((ratio_digits.f k bt184.2.1 6).bind fun t189 => (ratio_Parse.j0 k bt182.2 bt184.1 bt184.2.1 (!t189))) else (ratio_Parse.j0 k bt182.2 bt184.1 bt184.2.1 false))) else (ratio_Parse.j0 k bt182.2 bt184.1 bt184.2.1 true)))))))) = some (r1, r2) := h
  clear h
  by_cases c2 : a0.toList = ([110, 97, 110] : List UInt8)
  · rw [if_pos c2] at H
    have c2b0 : (a0.toList == ([110, 97, 110] : List UInt8)) = true := beq_iff_eq.mpr c2
    have c2b1 : (a0.toList != ([110, 97, 110] : List UInt8)) = false := bne_eq_false_iff_eq.mpr c2
    clear c2
    replace H := Option.bind_eq_some_iff.mp H
    obtain ⟨t179, A30, H⟩ := H
    replace H : (some (t179, true)) = some (r1, r2) := H
    have A3 := Aside0.mk A30
    clear A30
    simp only [Option.some.injEq, Prod.mk.injEq] at H
    obtain ⟨rfl, rfl⟩ := H
    go_enter Try.func63, Try.ntmps63
    go_wp2_with (first | ((with_reducible refine gate_callee (f := 83) rfl ?_); refine goesL_ (some 12) rfl rfl Try.func83 (by kernel_rfl) rfl #[] rfl (by (try simp only [List.map_toArray, List.map_cons, List.map_nil]); first | done | rfl | (simp only [List.length_drop, List.length_take]; rfl)) ?_; (with_reducible refine (math_NaN.calls  t179 _ A3.out).mono ?_); rintro e w' ⟨rfl, ⟨nd, rfl⟩⟩; refine ⟨_, rfl, ?_⟩))
    go_ret2
    exact ⟨by first | rfl | (simp [errW_none, errW_some] <;> rfl) | (simp [*, errW_none, errW_some] <;> rfl), by repeat (first | (with_reducible first | exact HB.out | apply below_alloc | apply pw_below_drewN | apply below_drew1) | exact HB.out)⟩
  · rw [if_neg c2] at H
    have c2b0 : (a0.toList == ([110, 97, 110] : List UInt8)) = false := beq_eq_false_iff_ne.mpr c2
    have c2b1 : (a0.toList != ([110, 97, 110] : List UInt8)) = true := bne_iff_ne.mpr c2
    by_cases c4 : a0.toList = ([105, 110, 102] : List UInt8)
    · rw [if_pos c4] at H
      have c4b0 : (a0.toList == ([105, 110, 102] : List UInt8)) = true := beq_iff_eq.mpr c4
      have c4b1 : (a0.toList != ([105, 110, 102] : List UInt8)) = false := bne_eq_false_iff_eq.mpr c4
      clear c4
      replace H := Option.bind_eq_some_iff.mp H
      obtain ⟨t180, A50, H⟩ := H
      replace H : (some (t180, true)) = some (r1, r2) := H
      have A5 := Aside0.mk A50
      clear A50
      simp only [Option.some.injEq, Prod.mk.injEq] at H
      obtain ⟨rfl, rfl⟩ := H
      go_enter Try.func63, Try.ntmps63
      go_wp2_with (first | ((with_reducible refine gate_callee (f := 84) rfl ?_); refine goesL_ (some 15) rfl rfl Try.func84 (by kernel_rfl) rfl #[.int .i64 1] rfl (by (try simp only [List.map_toArray, List.map_cons, List.map_nil]); first | done | rfl | (simp only [List.length_drop, List.length_take]; rfl)) ?_; (with_reducible refine (math_Inf.calls 1 t180 _ A5.out).mono ?_); rintro e w' ⟨rfl, ⟨nd, rfl⟩⟩; refine ⟨_, rfl, ?_⟩))
      go_ret2
      exact ⟨by first | rfl | (simp [errW_none, errW_some] <;> rfl) | (simp [*, errW_none, errW_some] <;> rfl), by repeat (first | (with_reducible first | exact HB.out | apply below_alloc | apply pw_below_drewN | apply below_drew1) | exact HB.out)⟩
    · rw [if_neg c4] at H
      have c4b0 : (a0.toList == ([105, 110, 102] : List UInt8)) = false := beq_eq_false_iff_ne.mpr c4
      have c4b1 : (a0.toList != ([105, 110, 102] : List UInt8)) = true := bne_iff_ne.mpr c4
      by_cases c6 : a0.toList = ([45, 105, 110, 102] : List UInt8)
      · rw [if_pos c6] at H
        have c6b0 : (a0.toList == ([45, 105, 110, 102] : List UInt8)) = true := beq_iff_eq.mpr c6
        have c6b1 : (a0.toList != ([45, 105, 110, 102] : List UInt8)) = false := bne_eq_false_iff_eq.mpr c6
        clear c6
        replace H := Option.bind_eq_some_iff.mp H
        obtain ⟨t181, A70, H⟩ := H
        replace H : (some (t181, true)) = some (r1, r2) := H
        have A7 := Aside0.mk A70
        clear A70
        simp only [Option.some.injEq, Prod.mk.injEq] at H
        obtain ⟨rfl, rfl⟩ := H
        go_enter Try.func63, Try.ntmps63
        go_wp2_with (first | ((with_reducible refine gate_callee (f := 84) rfl ?_); refine goesL_ (some 18) rfl rfl Try.func84 (by kernel_rfl) rfl #[.int .i64 (-1)] rfl (by (try simp only [List.map_toArray, List.map_cons, List.map_nil]); first | done | rfl | (simp only [List.length_drop, List.length_take]; rfl)) ?_; (with_reducible refine (math_Inf.calls (-1) t181 _ A7.out).mono ?_); rintro e w' ⟨rfl, ⟨nd, rfl⟩⟩; refine ⟨_, rfl, ?_⟩))
        go_ret2
        exact ⟨by first | rfl | (simp [errW_none, errW_some] <;> rfl) | (simp [*, errW_none, errW_some] <;> rfl), by repeat (first | (with_reducible first | exact HB.out | apply below_alloc | apply pw_below_drewN | apply below_drew1) | exact HB.out)⟩
      · rw [if_neg c6] at H
        have c6b0 : (a0.toList == ([45, 105, 110, 102] : List UInt8)) = false := beq_eq_false_iff_ne.mpr c6
        have c6b1 : (a0.toList != ([45, 105, 110, 102] : List UInt8)) = true := bne_iff_ne.mpr c6
        replace H := Option.bind_eq_some_iff.mp H
        obtain ⟨⟨t182, t183⟩, A80, H⟩ := H
        replace H : ((strings_Cut.f t182 (⟨#[46]⟩ : ByteArray)).bind fun bt184 => ((ratio_digits.f k bt184.1 9).bind fun t187 => (if t187 = true then (if (bt184.1.size : Int) > 1 then (if 0 < (bt184.1.size : Int) then (if (bt bt184.1 0) = 48 then (ratio_Parse.j0 k t183 bt184.1 bt184.2.1 true) else (if bt184.2.2 = true then ((ratio_digits.f k bt184.2.1 6).bind fun t188 => (ratio_Parse.j0 k t183 bt184.1 bt184.2.1 (!t188))) else (ratio_Parse.j0 k t183 bt184.1 bt184.2.1 false))) else (none)) else (if bt184.2.2 = true then ((ratio_digits.f k bt184.2.1 6).bind fun t189 => (ratio_Parse.j0 k t183 bt184.1 bt184.2.1 (!t189))) else (ratio_Parse.j0 k t183 bt184.1 bt184.2.1 false))) else (ratio_Parse.j0 k t183 bt184.1 bt184.2.1 true)))) = some (r1, r2) := H
        have A8 := Aside0.mk A80
        clear A80
        replace H := Option.bind_eq_some_iff.mp H
        obtain ⟨⟨t184, t185, t186⟩, A90, H⟩ := H
        replace H : ((ratio_digits.f k t184 9).bind fun t187 => (if t187 = true then (if (t184.size : Int) > 1 then (if 0 < (t184.size : Int) then (if (bt t184 0) = 48 then (ratio_Parse.j0 k t183 t184 t185 true) else (if t186 = true then ((ratio_digits.f k t185 6).bind fun t188 => (ratio_Parse.j0 k t183 t184 t185 (!t188))) else (ratio_Parse.j0 k t183 t184 t185 false))) else (none)) else (if t186 = true then ((ratio_digits.f k t185 6).bind fun t189 => (ratio_Parse.j0 k t183 t184 t185 (!t189))) else (ratio_Parse.j0 k t183 t184 t185 false))) else (ratio_Parse.j0 k t183 t184 t185 true))) = some (r1, r2) := H
        have A9 := Aside0.mk A90
        clear A90
        have HC10 := Aside0.mk H
        clear H
        go_enter Try.func63, Try.ntmps63
        go_upto_region 10 with (first | ((with_reducible refine gate_callee (f := 85) rfl ?_); refine goesL_ (some 21) rfl rfl Try.func85 (by kernel_rfl) rfl #[.string a0, .string (⟨#[45]⟩ : ByteArray)] rfl (by (try simp only [List.map_toArray, List.map_cons, List.map_nil]); first | done | rfl | (simp only [List.length_drop, List.length_take]; rfl)) ?_; (with_reducible refine (strings_CutPrefix.calls a0 (⟨#[45]⟩ : ByteArray) t182 t183 _ A8.out).mono ?_); rintro e w' ⟨rfl, ⟨nd, rfl⟩⟩; refine ⟨_, rfl, ?_⟩) | ((with_reducible refine gate_callee (f := 86) rfl ?_); refine goesL_ (some 26) rfl rfl Try.func86 (by kernel_rfl) rfl #[.string t182, .string (⟨#[46]⟩ : ByteArray)] rfl (by (try simp only [List.map_toArray, List.map_cons, List.map_nil]); first | done | rfl | (simp only [List.length_drop, List.length_take]; rfl)) ?_; (with_reducible refine (strings_Cut.calls t182 (⟨#[46]⟩ : ByteArray) t184 t185 t186 _ A9.out).mono ?_); rintro e w' ⟨rfl, ⟨nd, rfl⟩⟩; refine ⟨_, rfl, ?_⟩))
        (try simp only [Act.put, List.setIfInBounds_toArray, List.set_cons_zero, List.set_cons_succ])
        go_cut [50] (fun v50 wc => ∃ (kq : Nat) (x50_9 : Bool), v50 = .bool x50_9 ∧ Aside0 (ratio_Parse.j0 kq t183 t184 t185 x50_9 = some (r1, r2)) ∧ Aside0 (kq ≤ k) ∧ Aside0 (Below w.heap.size w wc))
        case first =>
          have H := HC10.out
          clear HC10
          replace H := Option.bind_eq_some_iff.mp H
          obtain ⟨t187, A110, H⟩ := H
          replace H : (if t187 = true then (if (t184.size : Int) > 1 then (if 0 < (t184.size : Int) then (if (bt t184 0) = 48 then (ratio_Parse.j0 k t183 t184 t185 true) else (if t186 = true then ((ratio_digits.f k t185 6).bind fun t188 => (ratio_Parse.j0 k t183 t184 t185 (!t188))) else (ratio_Parse.j0 k t183 t184 t185 false))) else (none)) else (if t186 = true then ((ratio_digits.f k t185 6).bind fun t189 => (ratio_Parse.j0 k t183 t184 t185 (!t189))) else (ratio_Parse.j0 k t183 t184 t185 false))) else (ratio_Parse.j0 k t183 t184 t185 true)) = some (r1, r2) := H
          have A11 := Aside0.mk A110
          clear A110
          by_cases c12 : t187 = true
          · subst c12
            have H1 : (if (t184.size : Int) > 1 then (if 0 < (t184.size : Int) then (if (bt t184 0) = 48 then (ratio_Parse.j0 k t183 t184 t185 true) else (if t186 = true then ((ratio_digits.f k t185 6).bind fun t188 => (ratio_Parse.j0 k t183 t184 t185 (!t188))) else (ratio_Parse.j0 k t183 t184 t185 false))) else (none)) else (if t186 = true then ((ratio_digits.f k t185 6).bind fun t189 => (ratio_Parse.j0 k t183 t184 t185 (!t189))) else (ratio_Parse.j0 k t183 t184 t185 false))) = some (r1, r2) := by rw [if_pos rfl] at H; exact H
            clear H
            have H := H1
            clear H1
            by_cases c13 : (t184.size : Int) > 1
            · rw [if_pos c13] at H
              have c13b0 : decide (1 < (t184.size : Int)) = true := decide_eq_true c13
              have c13b1 : decide (1 < t184.size) = true := decide_eq_true (by omega)
              clear c13
              (first | rw [c13b0] | (simp only [i64_w, i32_w]; rw [c13b0]) | skip)
              by_cases c14 : 0 < (t184.size : Int)
              · rw [if_pos c14] at H
                have c14b0 : decide (0 < (t184.size : Int)) = true := decide_eq_true c14
                have c14b1 : decide (0 < t184.size) = true := decide_eq_true (by omega)
                clear c14
                by_cases c16 : (bt t184 0) = 48
                · rw [if_pos c16] at H
                  have c16b0 : ((bt t184 0) == 48) = true := beq_iff_eq.mpr c16
                  have c16b1 : ((bt t184 0) != 48) = false := bne_eq_false_iff_eq.mpr c16
                  clear c16
                  have H' := Aside0.mk H
                  clear H
                  go_wp2_with (first | ((with_reducible refine gate_callee (f := 87) rfl ?_); refine goesL_ (some 31) rfl rfl Try.func87 (by kernel_rfl) rfl #[.string t184, .int .i64 9] rfl (by (try simp only [List.map_toArray, List.map_cons, List.map_nil]); first | done | rfl | (simp only [List.length_drop, List.length_take]; rfl)) ?_; (with_reducible refine (ratio_digits.calls k t184 9 true _ A11.out).mono ?_); rintro e w17 ⟨rfl, hb⟩; refine ⟨_, rfl, ?_⟩; have n0_ := Aside0.mk (below_step (by repeat (first | (with_reducible first | exact HB.out | apply below_alloc | apply pw_below_drewN | apply below_drew1) | exact HB.out)) hb); clear HB; have HB := n0_; clear n0_; (try clear hb); (try clear hb2); (try clear hk); (try clear hi); have p15 : 0 ≤ (0 : Int) := (by omega); have q15 : 0 < t184.size := (by have : (0 : Int) < (t184.size : Int) := of_decide_eq_true (by first | (with_reducible assumption) | assumption); omega); have hx15 : ∀ h : 0 < t184.size, ((t184[0]'h).toNat : Int) = bt t184 0 := bt_at t184 0; clear p15; have qi15 : (0 < (t184.size : Int)) = True := eq_true (of_decide_eq_true (by first | (with_reducible assumption) | assumption)); replace q15 := eq_true q15))
                  go_meet
                  case rel => exact ⟨_, (true), (by first | rfl | (simp; done) | (simp [*]; done)), H', ⟨by first | omega | exact Nat.le_refl _⟩, ⟨by repeat (first | (with_reducible first | exact HB.out | apply below_alloc | apply pw_below_drewN | apply below_drew1) | exact HB.out)⟩⟩
                · rw [if_neg c16] at H
                  have c16b0 : ((bt t184 0) == 48) = false := beq_eq_false_iff_ne.mpr c16
                  have c16b1 : ((bt t184 0) != 48) = true := bne_iff_ne.mpr c16
                  by_cases c18 : t186 = true
                  · subst c18
                    have H1 : ((ratio_digits.f k t185 6).bind fun t188 => (ratio_Parse.j0 k t183 t184 t185 (!t188))) = some (r1, r2) := by rw [if_pos rfl] at H; exact H
                    clear H
                    have H := H1
                    clear H1
                    replace H := Option.bind_eq_some_iff.mp H
                    obtain ⟨t188, A190, H⟩ := H
                    replace H : (ratio_Parse.j0 k t183 t184 t185 (!t188)) = some (r1, r2) := H
                    have A19 := Aside0.mk A190
                    clear A190
                    have H' := Aside0.mk H
                    clear H
                    go_wp2_with (first | ((with_reducible refine gate_callee (f := 87) rfl ?_); refine goesL_ (some 31) rfl rfl Try.func87 (by kernel_rfl) rfl #[.string t184, .int .i64 9] rfl (by (try simp only [List.map_toArray, List.map_cons, List.map_nil]); first | done | rfl | (simp only [List.length_drop, List.length_take]; rfl)) ?_; (with_reducible refine (ratio_digits.calls k t184 9 true _ A11.out).mono ?_); rintro e w20 ⟨rfl, hb⟩; refine ⟨_, rfl, ?_⟩; have n0_ := Aside0.mk (below_step (by repeat (first | (with_reducible first | exact HB.out | apply below_alloc | apply pw_below_drewN | apply below_drew1) | exact HB.out)) hb); clear HB; have HB := n0_; clear n0_; (try clear hb); (try clear hb2); (try clear hk); (try clear hi); have p15 : 0 ≤ (0 : Int) := (by omega); have q15 : 0 < t184.size := (by have : (0 : Int) < (t184.size : Int) := of_decide_eq_true (by first | (with_reducible assumption) | assumption); omega); have hx15 : ∀ h : 0 < t184.size, ((t184[0]'h).toNat : Int) = bt t184 0 := bt_at t184 0; clear p15; have qi15 : (0 < (t184.size : Int)) = True := eq_true (of_decide_eq_true (by first | (with_reducible assumption) | assumption)); replace q15 := eq_true q15) | (go_at_call 87; (with_reducible refine (ratio_digits.calls k t185 6 t188 _ A19.out).mono ?_); rintro e w21 ⟨rfl, hb⟩; have n0_ := Aside0.mk (below_step (by repeat (first | (with_reducible first | exact HB.out | apply below_alloc | apply pw_below_drewN | apply below_drew1) | exact HB.out)) hb); clear HB; have HB := n0_; clear n0_; (try clear hb); (try clear hb2); (try clear hk); (try clear hi)))
                    go_meet
                    case rel => exact ⟨_, (!t188), (by first | rfl | (simp; done) | (simp [*]; done)), H', ⟨by first | omega | exact Nat.le_refl _⟩, ⟨by repeat (first | (with_reducible first | exact HB.out | apply below_alloc | apply pw_below_drewN | apply below_drew1) | exact HB.out)⟩⟩
                  · replace c18 := Bool.eq_false_iff.mpr c18
                    subst c18
                    have H1 : (ratio_Parse.j0 k t183 t184 t185 false) = some (r1, r2) := by rw [if_neg (show ¬ (false = true) by decide)] at H; exact H
                    clear H
                    have H := H1
                    clear H1
                    have H' := Aside0.mk H
                    clear H
                    go_wp2_with (first | ((with_reducible refine gate_callee (f := 87) rfl ?_); refine goesL_ (some 31) rfl rfl Try.func87 (by kernel_rfl) rfl #[.string t184, .int .i64 9] rfl (by (try simp only [List.map_toArray, List.map_cons, List.map_nil]); first | done | rfl | (simp only [List.length_drop, List.length_take]; rfl)) ?_; (with_reducible refine (ratio_digits.calls k t184 9 true _ A11.out).mono ?_); rintro e w22 ⟨rfl, hb⟩; refine ⟨_, rfl, ?_⟩; have n0_ := Aside0.mk (below_step (by repeat (first | (with_reducible first | exact HB.out | apply below_alloc | apply pw_below_drewN | apply below_drew1) | exact HB.out)) hb); clear HB; have HB := n0_; clear n0_; (try clear hb); (try clear hb2); (try clear hk); (try clear hi); have p15 : 0 ≤ (0 : Int) := (by omega); have q15 : 0 < t184.size := (by have : (0 : Int) < (t184.size : Int) := of_decide_eq_true (by first | (with_reducible assumption) | assumption); omega); have hx15 : ∀ h : 0 < t184.size, ((t184[0]'h).toNat : Int) = bt t184 0 := bt_at t184 0; clear p15; have qi15 : (0 < (t184.size : Int)) = True := eq_true (of_decide_eq_true (by first | (with_reducible assumption) | assumption)); replace q15 := eq_true q15))
                    go_meet
                    case rel => exact ⟨_, (false), (by first | rfl | (simp; done) | (simp [*]; done)), H', ⟨by first | omega | exact Nat.le_refl _⟩, ⟨by repeat (first | (with_reducible first | exact HB.out | apply below_alloc | apply pw_below_drewN | apply below_drew1) | exact HB.out)⟩⟩
              · rw [if_neg c14] at H
                exact absurd H (by simp)
            · rw [if_neg c13] at H
              have c13b0 : decide (1 < (t184.size : Int)) = false := decide_eq_false c13
              have c13b1 : decide (1 < t184.size) = false := decide_eq_false (by omega)
              clear c13
              (first | rw [c13b0] | (simp only [i64_w, i32_w]; rw [c13b0]) | skip)
              by_cases c23 : t186 = true
              · subst c23
                have H1 : ((ratio_digits.f k t185 6).bind fun t189 => (ratio_Parse.j0 k t183 t184 t185 (!t189))) = some (r1, r2) := by rw [if_pos rfl] at H; exact H
                clear H
                have H := H1
                clear H1
                replace H := Option.bind_eq_some_iff.mp H
                obtain ⟨t189, A240, H⟩ := H
                replace H : (ratio_Parse.j0 k t183 t184 t185 (!t189)) = some (r1, r2) := H
                have A24 := Aside0.mk A240
                clear A240
                have H' := Aside0.mk H
                clear H
                go_wp2_with (first | ((with_reducible refine gate_callee (f := 87) rfl ?_); refine goesL_ (some 31) rfl rfl Try.func87 (by kernel_rfl) rfl #[.string t184, .int .i64 9] rfl (by (try simp only [List.map_toArray, List.map_cons, List.map_nil]); first | done | rfl | (simp only [List.length_drop, List.length_take]; rfl)) ?_; (with_reducible refine (ratio_digits.calls k t184 9 true _ A11.out).mono ?_); rintro e w25 ⟨rfl, hb⟩; refine ⟨_, rfl, ?_⟩; have n0_ := Aside0.mk (below_step (by repeat (first | (with_reducible first | exact HB.out | apply below_alloc | apply pw_below_drewN | apply below_drew1) | exact HB.out)) hb); clear HB; have HB := n0_; clear n0_; (try clear hb); (try clear hb2); (try clear hk); (try clear hi)) | (go_at_call 87; (with_reducible refine (ratio_digits.calls k t185 6 t189 _ A24.out).mono ?_); rintro e w26 ⟨rfl, hb⟩; have n0_ := Aside0.mk (below_step (by repeat (first | (with_reducible first | exact HB.out | apply below_alloc | apply pw_below_drewN | apply below_drew1) | exact HB.out)) hb); clear HB; have HB := n0_; clear n0_; (try clear hb); (try clear hb2); (try clear hk); (try clear hi)))
                go_meet
                case rel => exact ⟨_, (!t189), (by first | rfl | (simp; done) | (simp [*]; done)), H', ⟨by first | omega | exact Nat.le_refl _⟩, ⟨by repeat (first | (with_reducible first | exact HB.out | apply below_alloc | apply pw_below_drewN | apply below_drew1) | exact HB.out)⟩⟩
              · replace c23 := Bool.eq_false_iff.mpr c23
                subst c23
                have H1 : (ratio_Parse.j0 k t183 t184 t185 false) = some (r1, r2) := by rw [if_neg (show ¬ (false = true) by decide)] at H; exact H
                clear H
                have H := H1
                clear H1
                have H' := Aside0.mk H
                clear H
                go_wp2_with (first | ((with_reducible refine gate_callee (f := 87) rfl ?_); refine goesL_ (some 31) rfl rfl Try.func87 (by kernel_rfl) rfl #[.string t184, .int .i64 9] rfl (by (try simp only [List.map_toArray, List.map_cons, List.map_nil]); first | done | rfl | (simp only [List.length_drop, List.length_take]; rfl)) ?_; (with_reducible refine (ratio_digits.calls k t184 9 true _ A11.out).mono ?_); rintro e w27 ⟨rfl, hb⟩; refine ⟨_, rfl, ?_⟩; have n0_ := Aside0.mk (below_step (by repeat (first | (with_reducible first | exact HB.out | apply below_alloc | apply pw_below_drewN | apply below_drew1) | exact HB.out)) hb); clear HB; have HB := n0_; clear n0_; (try clear hb); (try clear hb2); (try clear hk); (try clear hi)))
                go_meet
                case rel => exact ⟨_, (false), (by first | rfl | (simp; done) | (simp [*]; done)), H', ⟨by first | omega | exact Nat.le_refl _⟩, ⟨by repeat (first | (with_reducible first | exact HB.out | apply below_alloc | apply pw_below_drewN | apply below_drew1) | exact HB.out)⟩⟩
          · replace c12 := Bool.eq_false_iff.mpr c12
            subst c12
            have H1 : (ratio_Parse.j0 k t183 t184 t185 true) = some (r1, r2) := by rw [if_neg (show ¬ (false = true) by decide)] at H; exact H
            clear H
            have H := H1
            clear H1
            have H' := Aside0.mk H
            clear H
            go_wp2_with (first | ((with_reducible refine gate_callee (f := 87) rfl ?_); refine goesL_ (some 31) rfl rfl Try.func87 (by kernel_rfl) rfl #[.string t184, .int .i64 9] rfl (by (try simp only [List.map_toArray, List.map_cons, List.map_nil]); first | done | rfl | (simp only [List.length_drop, List.length_take]; rfl)) ?_; (with_reducible refine (ratio_digits.calls k t184 9 false _ A11.out).mono ?_); rintro e w28 ⟨rfl, hb⟩; refine ⟨_, rfl, ?_⟩; have n0_ := Aside0.mk (below_step (by repeat (first | (with_reducible first | exact HB.out | apply below_alloc | apply pw_below_drewN | apply below_drew1) | exact HB.out)) hb); clear HB; have HB := n0_; clear n0_; (try clear hb); (try clear hb2); (try clear hk); (try clear hi)))
            go_meet
            case rel => exact ⟨_, (true), (by first | rfl | (simp; done) | (simp [*]; done)), H', ⟨by first | omega | exact Nat.le_refl _⟩, ⟨by repeat (first | (with_reducible first | exact HB.out | apply below_alloc | apply pw_below_drewN | apply below_drew1) | exact HB.out)⟩⟩
        case rest =>
          clear HC10
          try clear c1
          try clear p1
          try clear q1
          try clear hx1
          try clear qi1
          try clear c2
          try clear c2b0
          try clear c2b1
          try clear p2
          try clear c4
          try clear c4b0
          try clear c4b1
          try clear c6
          try clear c6b0
          try clear c6b1
          try clear c8
          try clear c12
          try clear c13
          try clear c13b0
          try clear c13b1
          try clear c14
          try clear c14b0
          try clear c14b1
          try clear p15
          try clear q15
          try clear hx15
          try clear qi15
          try clear c16
          try clear c16b0
          try clear c16b1
          try clear c18
          try clear c23
          try clear p15
          try clear q15
          obtain ⟨kq, x50_9, rfl, HA, HJ9, HB⟩ := hcut
          cases kq with
          | zero => exact absurd HA.out (by simp [ratio_Parse.j0])
          | succ kj9 =>
            have H := HA.out
            clear HA
            simp only [ratio_Parse.j0] at H
            by_cases c29 : x50_9 = true
            · subst c29
              have H1 : (some (0, false)) = some (r1, r2) := by rw [if_pos rfl] at H; exact H
              clear H
              have H := H1
              clear H1
              simp only [Option.some.injEq, Prod.mk.injEq] at H
              obtain ⟨rfl, rfl⟩ := H
              go_wp2
              go_ret2
              exact ⟨by first | rfl | (simp [errW_none, errW_some] <;> rfl) | (simp [*, errW_none, errW_some] <;> rfl), by repeat (first | (with_reducible first | exact HB.out | apply below_alloc | apply pw_below_drewN | apply below_drew1) | exact HB.out)⟩
            · replace c29 := Bool.eq_false_iff.mpr c29
              subst c29
              have H1 : (if t184.size + t185.size ≤ 9223372036854775807 then ((ratio_value.f kj9 (t184 ++ t185)).bind fun t190 => ((ratio_ten.f kj9 (t185.size : Int)).bind fun t191 => (if (fquoOk (fofi t190) (fofi t191)) = true then (if t183 = true then ((math_Copysign.f (fquo (fofi t190) (fofi t191)) 13830554455654793216).bind fun t192 => (some (t192, true))) else (some (fquo (fofi t190) (fofi t191), true))) else (none)))) else (none)) = some (r1, r2) := by rw [if_neg (show ¬ (false = true) by decide)] at H; exact H
              clear H
              have H := H1
              clear H1
              by_cases c30 : t184.size + t185.size ≤ 9223372036854775807
              · rw [if_pos c30] at H
                have c30b0 := eq_true c30
                have c30b1 : decide (t184.size + t185.size ≤ 9223372036854775807) = true := decide_eq_true c30
                try have c30b2 : (9223372036854775807 < t184.size + t185.size) = False := eq_false (Nat.not_lt.2 c30)
                replace H := Option.bind_eq_some_iff.mp H
                obtain ⟨t190, A310, H⟩ := H
                replace H : ((ratio_ten.f kj9 (t185.size : Int)).bind fun t191 => (if (fquoOk (fofi t190) (fofi t191)) = true then (if t183 = true then ((math_Copysign.f (fquo (fofi t190) (fofi t191)) 13830554455654793216).bind fun t192 => (some (t192, true))) else (some (fquo (fofi t190) (fofi t191), true))) else (none))) = some (r1, r2) := H
                have A31 := Aside0.mk A310
                clear A310
                replace H := Option.bind_eq_some_iff.mp H
                obtain ⟨t191, A320, H⟩ := H
                replace H : (if (fquoOk (fofi t190) (fofi t191)) = true then (if t183 = true then ((math_Copysign.f (fquo (fofi t190) (fofi t191)) 13830554455654793216).bind fun t192 => (some (t192, true))) else (some (fquo (fofi t190) (fofi t191), true))) else (none)) = some (r1, r2) := H
                have A32 := Aside0.mk A320
                clear A320
                by_cases c33 : (fquoOk (fofi t190) (fofi t191)) = true
                · rw [if_pos c33] at H
                  have c33b0 := eq_true c33
                  have c33b1 : decide ((fquoOk (fofi t190) (fofi t191)) = true) = true := decide_eq_true c33
                  clear c33
                  by_cases c34 : t183 = true
                  · subst c34
                    have H1 : ((math_Copysign.f (fquo (fofi t190) (fofi t191)) 13830554455654793216).bind fun t192 => (some (t192, true))) = some (r1, r2) := by rw [if_pos rfl] at H; exact H
                    clear H
                    have H := H1
                    clear H1
                    replace H := Option.bind_eq_some_iff.mp H
                    obtain ⟨t192, A350, H⟩ := H
                    replace H : (some (t192, true)) = some (r1, r2) := H
                    have A35 := Aside0.mk A350
                    clear A350
                    simp only [Option.some.injEq, Prod.mk.injEq] at H
                    obtain ⟨rfl, rfl⟩ := H
                    go_wp2_with (first | ((with_reducible refine gate_callee (f := 88) rfl ?_); refine goesL_ (some 54) rfl rfl Try.func88 (by kernel_rfl) rfl #[.string (t184 ++ t185)] rfl (by (try simp only [List.map_toArray, List.map_cons, List.map_nil]); first | done | rfl | (simp only [List.length_drop, List.length_take]; rfl)) ?_; (with_reducible refine (ratio_value.calls kj9 (t184 ++ t185) t190 _ A31.out).mono ?_); rintro e w36 ⟨rfl, hb⟩; refine ⟨_, rfl, ?_⟩; have n0_ := Aside0.mk (below_step (by repeat (first | (with_reducible first | exact HB.out | apply below_alloc | apply pw_below_drewN | apply below_drew1) | exact HB.out)) hb); clear HB; have HB := n0_; clear n0_; (try clear hb); (try clear hb2); (try clear hk); (try clear hi)) | ((with_reducible refine gate_callee (f := 61) rfl ?_); refine goesL_ (some 58) rfl rfl Try.func61 (by kernel_rfl) rfl #[.int .i64 (t185.size : Int)] rfl (by (try simp only [List.map_toArray, List.map_cons, List.map_nil]); first | done | rfl | (simp only [List.length_drop, List.length_take]; rfl)) ?_; (with_reducible refine (ratio_ten.calls kj9 (t185.size : Int) t191 _ A32.out).mono ?_); rintro e w' ⟨rfl, ⟨nd, rfl⟩⟩; refine ⟨_, rfl, ?_⟩) | ((with_reducible refine gate_callee (f := 89) rfl ?_); refine goesL_ (some 63) rfl rfl Try.func89 (by kernel_rfl) rfl #[.float .f64 (fquo (fofi t190) (fofi t191)), .float .f64 13830554455654793216] rfl (by (try simp only [List.map_toArray, List.map_cons, List.map_nil]); first | done | rfl | (simp only [List.length_drop, List.length_take]; rfl)) ?_; (with_reducible refine (math_Copysign.calls (fquo (fofi t190) (fofi t191)) 13830554455654793216 t192 _ A35.out).mono ?_); rintro e w' ⟨rfl, ⟨nd, rfl⟩⟩; refine ⟨_, rfl, ?_⟩))
                    go_ret2
                    exact ⟨by first | rfl | (simp [errW_none, errW_some] <;> rfl) | (simp [*, errW_none, errW_some] <;> rfl), by repeat (first | (with_reducible first | exact HB.out | apply below_alloc | apply pw_below_drewN | apply below_drew1) | exact HB.out)⟩
                  · replace c34 := Bool.eq_false_iff.mpr c34
                    subst c34
                    have H1 : (some (fquo (fofi t190) (fofi t191), true)) = some (r1, r2) := by rw [if_neg (show ¬ (false = true) by decide)] at H; exact H
                    clear H
                    have H := H1
                    clear H1
                    simp only [Option.some.injEq, Prod.mk.injEq] at H
                    obtain ⟨rfl, rfl⟩ := H
                    go_wp2_with (first | ((with_reducible refine gate_callee (f := 88) rfl ?_); refine goesL_ (some 54) rfl rfl Try.func88 (by kernel_rfl) rfl #[.string (t184 ++ t185)] rfl (by (try simp only [List.map_toArray, List.map_cons, List.map_nil]); first | done | rfl | (simp only [List.length_drop, List.length_take]; rfl)) ?_; (with_reducible refine (ratio_value.calls kj9 (t184 ++ t185) t190 _ A31.out).mono ?_); rintro e w37 ⟨rfl, hb⟩; refine ⟨_, rfl, ?_⟩; have n0_ := Aside0.mk (below_step (by repeat (first | (with_reducible first | exact HB.out | apply below_alloc | apply pw_below_drewN | apply below_drew1) | exact HB.out)) hb); clear HB; have HB := n0_; clear n0_; (try clear hb); (try clear hb2); (try clear hk); (try clear hi)) | ((with_reducible refine gate_callee (f := 61) rfl ?_); refine goesL_ (some 58) rfl rfl Try.func61 (by kernel_rfl) rfl #[.int .i64 (t185.size : Int)] rfl (by (try simp only [List.map_toArray, List.map_cons, List.map_nil]); first | done | rfl | (simp only [List.length_drop, List.length_take]; rfl)) ?_; (with_reducible refine (ratio_ten.calls kj9 (t185.size : Int) t191 _ A32.out).mono ?_); rintro e w' ⟨rfl, ⟨nd, rfl⟩⟩; refine ⟨_, rfl, ?_⟩))
                    go_ret2
                    exact ⟨by first | rfl | (simp [errW_none, errW_some] <;> rfl) | (simp [*, errW_none, errW_some] <;> rfl), by repeat (first | (with_reducible first | exact HB.out | apply below_alloc | apply pw_below_drewN | apply below_drew1) | exact HB.out)⟩
                · rw [if_neg c33] at H
                  exact absurd H (by simp)
              · rw [if_neg c30] at H
                exact absurd H (by simp)

end Go.Proofs.Ytofebccpghkmgaa.PJudgeSums
