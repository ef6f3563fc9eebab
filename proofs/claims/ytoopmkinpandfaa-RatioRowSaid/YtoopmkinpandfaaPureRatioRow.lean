/- RatioRow: the row from -Inf to NaN, with both noughts, stands in its order, whichever two of it are asked; no condition. -/
import Derived.Test.YtoopmkinpandfaaPRatioRowx6
import Derived.Test.YtoopmkinpandfaaFth
set_option linter.unusedSimpArgs false
set_option linter.unusedVariables false
namespace Go.Proofs.Ytoopmkinpandfaa.Pure
open Go.RowKit Go.Proofs.Ytoopmkinpandfaa.PRatioRow Go.Proofs.YtoopmkinpandfaaW.PrintWords Go.Proofs.YtoopmkinpandfaaW.PrintLast Go.Proofs.YtoopmkinpandfaaW.PrintMore
open Go.Proofs.Ytoopmkinpandfaa

open Flt
theorem isnan_f (x : Nat) : math_IsNaN.f x = some (fnan x) := by unfold math_IsNaN.f; rw [fne_self]
theorem signbit_f (x : Nat) (h : x < 18446744073709551616) : math_Signbit.f x = some (sg x) := by unfold math_Signbit.f; rw [fsign_sg x h]
theorem bits_of {b : Int} (h : (Lit.int .u64 b).wf = true) : b.toNat < 18446744073709551616 := by
  have h2 : IntKind.min .u64 ≤ b ∧ b ≤ IntKind.max .u64 := by simpa [Lit.wf] using h
  have e1 : IntKind.min .u64 = 0 := by decide
  have e2 : IntKind.max .u64 = 18446744073709551615 := by decide
  omega
theorem int_of {b : Int} (h : (Lit.int .i64 b).wf = true) : -9223372036854775808 ≤ b ∧ b ≤ 9223372036854775807 := by
  have h2 : IntKind.min .i64 ≤ b ∧ b ≤ IntKind.max .i64 := by simpa [Lit.wf] using h
  have e1 : IntKind.min .i64 = -9223372036854775808 := by decide
  have e2 : IntKind.max .i64 = 9223372036854775807 := by decide
  omega
theorem key_zero : key 0 = 0 := by decide
theorem key_one : key 4607182418800017408 = 4607182418800017408 := by decide
theorem nn {x : Nat} (h : fnan x = false) : rung x ≤ top := not_nan x h
theorem yn {x : Nat} (h : fnan x = true) : top < rung x := (fnan_iff x).1 h
theorem awake_ev : ∃ K, ∀ k, K ≤ k → turncocklaw5_awake.f k = some true := Ev.of turncocklaw5_awake.mono (k := 40) (by decide +kernel)
theorem row_all : ∀ i j : Fin 13, ratio_Order.f (rdOf 0 [18442240474082181120, 18442240474082181119, 13830554455654793216, 9223372036854775809, 9223372036854775808, 0, 1, 4602678819172646912, 4607182418800017408, 9218868437227405311, 9218868437227405312, 9221120237041090561, 18444492273895866369] (i.val : Int)) (rdOf 0 [18442240474082181120, 18442240474082181119, 13830554455654793216, 9223372036854775809, 9223372036854775808, 0, 1, 4602678819172646912, 4607182418800017408, 9218868437227405311, 9218868437227405312, 9221120237041090561, 18444492273895866369] (j.val : Int)) = some (if min i.val 11 < min j.val 11 then -1 else if min j.val 11 < min i.val 11 then 1 else 0) := by decide +kernel
theorem row_f : turncocklaw5_row.f = some [18442240474082181120, 18442240474082181119, 13830554455654793216, 9223372036854775809, 9223372036854775808, 0, 1, 4602678819172646912, 4607182418800017408, 9218868437227405311, 9218868437227405312, 9221120237041090561, 18444492273895866369] := by decide +kernel
theorem RatioRow : turncocklaw5_RatioRow.Pure := by
  intro i j wi wj
  have hi := int_of wi
  have hj := int_of wj
  obtain ⟨K, hK⟩ := awake_ev
  refine ⟨K + 10, ?_⟩
  unfold turncocklaw5_RatioRow.f
  rw [row_f]
  simp only [Option.bind_some]
  have hall := row_all
  generalize hl : ([18442240474082181120, 18442240474082181119, 13830554455654793216, 9223372036854775809, 9223372036854775808, 0, 1, 4602678819172646912, 4607182418800017408, 9218868437227405311, 9218868437227405312, 9221120237041090561, 18444492273895866369] : List Nat) = l at *
  have hlen : (l.length : Int) = 13 := by rw [← hl]; rfl
  rw [hlen]
  have none_case : turncocklaw5_RatioRow.j0 (K + 10) i j l true = some true := by
    simp only [turncocklaw5_RatioRow.j0, if_true]
    rw [hK (K + 9) (by omega)]; rfl
  by_cases h1 : i < 0
  · rw [if_pos h1]; exact none_case
  rw [if_neg h1]
  by_cases h2 : i ≥ 13
  · rw [if_pos h2]; exact none_case
  rw [if_neg h2]
  by_cases h3 : j < 0
  · rw [if_pos h3]; exact none_case
  rw [if_neg h3]
  by_cases h4 : j ≥ 13
  · rw [decide_eq_true h4]; exact none_case
  rw [decide_eq_false h4]
  simp only [turncocklaw5_RatioRow.j0, Bool.false_eq_true, if_false]
  rw [hlen]
  have hw : wrap64 ((13 : Int) - 2) = 11 := by unfold wrap64; omega
  rw [hw]
  obtain ⟨a, rfl⟩ := Int.eq_ofNat_of_zero_le (show 0 ≤ i by omega)
  obtain ⟨b, rfl⟩ := Int.eq_ofNat_of_zero_le (show 0 ≤ j by omega)
  have ha : a < 13 := by omega
  have hb : b < 13 := by omega
  have key := hall ⟨a, ha⟩ ⟨b, hb⟩
  have ea : mn (a : Int) 11 = ((min a 11 : Nat) : Int) := by unfold mn; omega
  have eb : mn (b : Int) 11 = ((min b 11 : Nat) : Int) := by unfold mn; omega
  rw [ea, eb]
  have tail : ∀ x8 : Int, (x8 = if min a 11 < min b 11 then -1 else 0) → turncocklaw5_RatioRow.j1 (K + 8 + 1) (a : Int) (b : Int) l ((min a 11 : Nat) : Int) ((min b 11 : Nat) : Int) x8 = some true := by
    intro x8 h8
    simp only [turncocklaw5_RatioRow.j1]
    rw [hlen, hK (K + 8) (by omega)]
    have q1 : (0 : Int) ≤ (a : Int) := by omega
    have q2 : (a : Int) < 13 := by omega
    have q3 : (0 : Int) ≤ (b : Int) := by omega
    have q4 : (b : Int) < 13 := by omega
    rw [key]
    simp only [q1, q2, q3, q4, if_true, Option.bind_some]
    by_cases c1 : min a 11 < min b 11
    · rw [if_pos c1] at h8
      rw [if_pos c1, h8, if_neg (by omega), if_pos rfl]
    · rw [if_neg c1] at h8
      rw [if_neg c1, h8]
      by_cases c2 : min b 11 < min a 11
      · rw [if_pos c2, if_pos (by omega), if_pos rfl]
      · rw [if_neg c2, if_neg (by omega), if_pos rfl]
  by_cases c1 : min a 11 < min b 11
  · rw [if_pos (by omega)]
    exact tail (-1) (by rw [if_pos c1])
  · rw [if_neg (by omega)]
    exact tail 0 (by rw [if_neg c1])

end Go.Proofs.Ytoopmkinpandfaa.Pure
