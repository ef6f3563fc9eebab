/- RatioRises: a greater ratio, of a greater limit, has no lesser threshold; for all limits and bits, no condition. -/
import Derived.Test.YtoopmkinpandfaaPRatioRisesx5
import Derived.Test.YtoopmkinpandfaaFth
set_option linter.unusedSimpArgs false
set_option linter.unusedVariables false
namespace Go.Proofs.Ytoopmkinpandfaa.Pure
open Go.RowKit Go.Proofs.Ytoopmkinpandfaa.PRatioRises Go.Proofs.YtoopmkinpandfaaW.PrintWords Go.Proofs.YtoopmkinpandfaaW.PrintLast Go.Proofs.YtoopmkinpandfaaW.PrintMore
open Go.Proofs.Ytoopmkinpandfaa

open Flt
theorem isnan_f (x : Nat) : math_IsNaN.f x = some (fnan x) := by unfold math_IsNaN.f; rw [fne_self]
theorem signbit_f (x : Nat) (h : x < 18446744073709551616) : math_Signbit.f x = some (sg x) := by unfold math_Signbit.f; rw [fsign_sg x h]
theorem bits_of {b : Int} (h : (Lit.int .u64 b).wf = true) : b.toNat < 18446744073709551616 := by
  have h2 : IntKind.min .u64 ≤ b ∧ b ≤ IntKind.max .u64 := by simpa [Lit.wf] using h
  have e1 : IntKind.min .u64 = 0 := by decide
  have e2 : IntKind.max .u64 = 18446744073709551615 := by decide
  omega
theorem int_of {b : Int} (h : (Lit.int .i64 b).wf = true) : -9223372036854775808 ≤ b ∧ b ≤ 9223372036854775807 := by
  have h2 : IntKind.min .i64 ≤ b ∧ b ≤ IntKind.max .i64 := by simpa [Lit.wf] using h
  have e1 : IntKind.min .i64 = -9223372036854775808 := by decide
  have e2 : IntKind.max .i64 = 9223372036854775807 := by decide
  omega
theorem of_f (b : Int) : turncocklaw5_of.f b = some b.toNat := rfl
theorem key_zero : key 0 = 0 := by decide
theorem key_one : key 4607182418800017408 = 4607182418800017408 := by decide
theorem nn {x : Nat} (h : fnan x = false) : rung x ≤ top := not_nan x h
theorem yn {x : Nat} (h : fnan x = true) : top < rung x := (fnan_iff x).1 h
theorem limit_nat (a : Int) : ∃ L : Nat, mn (mx a 0) 4294967295 = (L : Int) ∧ L ≤ 4294967295 ∧ (L : Int) = mx (mn a 4294967295) 0 := by
  refine ⟨(mn (mx a 0) 4294967295).toNat, ?_, ?_, ?_⟩ <;> unfold mn mx <;> omega
theorem near_f (a : Int) (x : Nat) (hx : x < 18446744073709551616) (L : Nat) (hL : mn (mx a 0) 4294967295 = (L : Int)) (hl : L ≤ 4294967295) (k : Nat) (hk : 1 ≤ k) : ratio_Near.f k a x = some (nearV L x : Int) := by
  obtain ⟨k, rfl⟩ : ∃ m, k = m + 1 := ⟨k - 1, by omega⟩
  unfold ratio_Near.f
  rw [isnan_f, hL]
  simp only [Option.bind_some]
  unfold nearV
  cases nx : fnan x with
  | true =>
    simp only [if_true, ratio_Near.j0]
  | false =>
    simp only [Bool.false_eq_true, if_false, ratio_Near.j0]
    rw [fge_key x _ (nn nx) (by decide), fle_key x 0 (nn nx) (by decide), key_one, key_zero]
    simp only [decide_eq_true_eq]
    by_cases h1 : 4607182418800017408 ≤ key x
    · rw [if_pos h1, if_pos h1]
    · rw [if_neg h1, if_neg h1]
      by_cases h2 : key x ≤ 0
      · rw [if_pos h2, if_pos h2]; rfl
      · rw [if_neg h2, if_neg h2]
        obtain ⟨e1, e2⟩ := key_pos x (by omega) (by omega) hx
        obtain ⟨g1, R, g2, g3, g4, g5, g6, g7, g8, g9, g10⟩ := near_mid L x hl (by omega)
        rw [if_pos g1, g2, if_pos g6, g7]
theorem awake_ev : ∃ K, ∀ k, K ≤ k → turncocklaw5_awake.f k = some true := Ev.of turncocklaw5_awake.mono (k := 40) (by decide +kernel)
theorem fmin_key (x y : Nat) (hx : x < 18446744073709551616) (hy : y < 18446744073709551616) (nx : fnan x = false) (ny : fnan y = false) : fmin x y < 18446744073709551616 ∧ fnan (fmin x y) = false ∧ key (fmin x y) ≤ key x ∧ key (fmin x y) ≤ key y ∧ fmax x y < 18446744073709551616 ∧ fnan (fmax x y) = false ∧ key x ≤ key (fmax x y) ∧ key y ≤ key (fmax x y) := by
  unfold fmin fmax
  rw [flt_key x y (nn nx) (nn ny), fgt_key x y (nn nx) (nn ny)]
  simp only [decide_eq_true_eq]
  by_cases h1 : key x < key y
  · simp only [if_pos h1]
    exact ⟨hx, nx, by omega, by omega, hy, ny, by omega, by omega⟩
  · simp only [if_neg h1]
    by_cases h2 : key y < key x
    · simp only [if_pos h2]
      exact ⟨hy, ny, by omega, by omega, hx, nx, by omega, by omega⟩
    · simp only [if_neg h2]
      split
      · exact ⟨hx, nx, by omega, by omega, hy, ny, by omega, by omega⟩
      · exact ⟨hy, ny, by omega, by omega, hx, nx, by omega, by omega⟩
theorem RatioRises : turncocklaw5_RatioRises.Pure := by
  intro a m b c wa wm wb wc
  have hb := bits_of wb
  have hc := bits_of wc
  obtain ⟨K, hK⟩ := awake_ev
  refine ⟨K + 5, ?_⟩
  have hw := hK (K + 4) (by omega)
  unfold turncocklaw5_RatioRises.f
  simp only [of_f, Option.bind_some]
  generalize b.toNat = x at *
  generalize c.toNat = y at *
  rw [isnan_f, isnan_f]
  simp only [Option.bind_some]
  have nan_case : turncocklaw5_RatioRises.j0 (K + 4 + 1) a m x y true = some true := by
    simp only [turncocklaw5_RatioRises.j0, if_true]
    unfold math_NaN.f
    simp only [Option.bind_some]
    obtain ⟨L, h1, h2, h3⟩ := limit_nat a
    rw [near_f a _ (by omega) L h1 h2 _ (by omega)]
    simp only [Option.bind_some]
    have : nearV L 9221120237041090561 = L := by
      unfold nearV
      rw [if_pos (by decide)]
    rw [this, if_pos h3, hw]
    rfl
  cases nx : fnan x with
  | true => rw [if_pos rfl]; exact nan_case
  | false =>
    rw [if_neg (by decide)]
    cases ny : fnan y with
    | true => exact nan_case
    | false =>
      simp only [turncocklaw5_RatioRises.j0, Bool.false_eq_true, if_false]
      rw [if_pos (ford_key x y (nn nx) (nn ny))]
      obtain ⟨f1, f2, f3, f4, f5, f6, f7, f8⟩ := fmin_key x y hb hc nx ny
      obtain ⟨L, h1, h2, h3⟩ := limit_nat (mn a m)
      obtain ⟨M, h4, h5, h6⟩ := limit_nat (mx a m)
      rw [near_f (mn a m) _ f1 L h1 h2 _ (by omega), near_f (mx a m) _ f5 M h4 h5 _ (by omega), hw]
      simp only [Option.bind_some]
      have hLM : L ≤ M := by
        unfold mn mx at h1 h4
        omega
      have := nearV_mono L M (fmin x y) (fmax x y) hLM h5 f1 f5 f2 f6 (by omega)
      rw [if_pos (by omega)]

end Go.Proofs.Ytoopmkinpandfaa.Pure
