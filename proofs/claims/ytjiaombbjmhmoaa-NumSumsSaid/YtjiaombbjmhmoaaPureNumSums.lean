/- NumSums: sums, differences, products and quotients are those of the numbers held, held, for every two numbers; no condition. -/
import Derived.Test.YtjiaombbjmhmoaaPNumSumsx2
set_option linter.unusedSimpArgs false
set_option linter.unusedVariables false
namespace Go.Proofs.Ytjiaombbjmhmoaa.Pure
open Go.RowKit Go.Proofs.Ytjiaombbjmhmoaa.PNumSums Go.Proofs.YtjiaombbjmhmoaaW.PrintWords Go.Proofs.YtjiaombbjmhmoaaW.PrintLast Go.Proofs.YtjiaombbjmhmoaaW.PrintMore
open Go.Proofs.Ytjiaombbjmhmoaa

def hold (a : Int) : Int := if a < 0 then 0 else if a > 4611686018427387904 then 4611686018427387904 else a
theorem hold_rng (a : Int) : 0 ≤ hold a ∧ hold a ≤ 4611686018427387904 := by
  unfold hold
  repeat' split
  all_goals omega
theorem hold_in (a : Int) (h0 : 0 ≤ a) (h1 : a ≤ 4611686018427387904) : hold a = a := by
  unfold hold
  rw [if_neg (by omega), if_neg (by omega)]
theorem numhold_f (a : Int) : num_Hold.f a = some (hold a) := by
  unfold num_Hold.f hold mx mn
  congr 1
  repeat' split
  all_goals omega
def addH (a b : Int) : Int := if hold a + hold b > 4611686018427387904 then 4611686018427387904 else hold a + hold b
theorem add_f (a b : Int) : num_Add.f a b = some (addH a b) := by
  have ha := hold_rng a
  have hb := hold_rng b
  unfold num_Add.f addH
  rw [numhold_f, numhold_f]
  simp only [Option.bind_some]
  rw [show wrap64 (4611686018427387904 - hold b) = 4611686018427387904 - hold b from by unfold wrap64; omega]
  by_cases h : hold a + hold b > 4611686018427387904
  · rw [if_pos h, if_pos (by omega)]
  · rw [if_neg h, if_neg (by omega), show wrap64 (hold a + hold b) = hold a + hold b from by unfold wrap64; omega]
def mulH (a b : Int) : Int := if hold a * hold b > 4611686018427387904 then 4611686018427387904 else hold a * hold b
theorem mul_f (a b : Int) : num_Mul.f a b = some (mulH a b) := by
  have ha := hold_rng a
  have hb := hold_rng b
  have h0 : 0 ≤ hold a * hold b := Int.mul_nonneg ha.1 hb.1
  unfold num_Mul.f mulH
  rw [numhold_f, numhold_f]
  simp only [Option.bind_some]
  by_cases h1 : hold b > 0
  · have key : hold a ≤ 4611686018427387904 / hold b ↔ hold a * hold b ≤ 4611686018427387904 := Int.le_ediv_iff_mul_le h1
    rw [if_pos h1]
    by_cases h : hold a * hold b > 4611686018427387904
    · rw [if_pos h, if_pos (by omega)]
    · rw [if_neg h, if_neg (by omega), show wrap64 (hold a * hold b) = hold a * hold b from by unfold wrap64; omega]
  · have e : hold b = 0 := by omega
    rw [if_neg h1, e, Int.mul_zero]; simp [wrap64]
theorem awake_ev : ∃ K, ∀ k, K ≤ k → turncocklaw1_awake.f k = some true := Ev.of turncocklaw1_awake.mono (k := 30) (by decide +kernel)
theorem rhold_f (a : Int) : turncockref1_Hold.f a = some (hold a) := by
  unfold turncockref1_Hold.f hold
  repeat' split
  all_goals rfl
theorem radd_f (a b : Int) : turncockref1_Add.f a b = some (addH a b) := by
  have ha := hold_rng a
  have hb := hold_rng b
  unfold turncockref1_Add.f addH
  rw [rhold_f, rhold_f]
  simp only [Option.bind_some]
  rw [show wrap64 (4611686018427387904 - hold b) = 4611686018427387904 - hold b from by unfold wrap64; omega]
  by_cases h : hold a + hold b > 4611686018427387904
  · rw [if_pos h, if_pos (by omega)]
  · rw [if_neg h, if_neg (by omega), show wrap64 (hold a + hold b) = hold a + hold b from by unfold wrap64; omega]
def subH (a b : Int) : Int := if hold a < hold b then 0 else hold a - hold b
theorem sub_f (a b : Int) : num_Sub.f a b = some (subH a b) := by
  have ha := hold_rng a
  have hb := hold_rng b
  unfold num_Sub.f subH
  rw [numhold_f, numhold_f]
  simp only [Option.bind_some]
  rw [show wrap64 (hold a - hold b) = hold a - hold b from by unfold wrap64; omega]
  unfold mx
  congr 1
  repeat' split
  all_goals omega
theorem rsub_f (a b : Int) : turncockref1_Sub.f a b = some (subH a b) := by
  have ha := hold_rng a
  have hb := hold_rng b
  unfold turncockref1_Sub.f subH
  rw [rhold_f, rhold_f]
  simp only [Option.bind_some]
  rw [show wrap64 (hold a - hold b) = hold a - hold b from by unfold wrap64; omega, rhold_f]
  simp only [Option.bind_some]
  congr 1
  generalize hold a = x at *
  generalize hold b = y at *
  unfold hold
  repeat' split
  all_goals omega
theorem rmul_f (a b : Int) (k : Nat) (hk : 1 ≤ k) : turncockref1_Mul.f k a b = some (mulH a b) := by
  have ha := hold_rng a
  have hb := hold_rng b
  have h0 : 0 ≤ hold a * hold b := Int.mul_nonneg ha.1 hb.1
  obtain ⟨k, rfl⟩ : ∃ m, k = m + 1 := ⟨k - 1, by omega⟩
  unfold turncockref1_Mul.f mulH
  rw [rhold_f, rhold_f]
  simp only [Option.bind_some]
  by_cases h1 : hold a = 0
  · rw [if_pos h1, h1, Int.zero_mul]; simp [turncockref1_Mul.j0]
  rw [if_neg h1]
  by_cases h2 : hold b = 0
  · rw [h2, Int.mul_zero]; simp [turncockref1_Mul.j0]
  rw [show (hold b == 0) = false from beq_eq_false_iff_ne.mpr h2]
  simp only [turncockref1_Mul.j0]
  have key : hold a ≤ 4611686018427387904 / hold b ↔ hold a * hold b ≤ 4611686018427387904 := Int.le_ediv_iff_mul_le (by omega)
  have q0 : (0 : Int) ≤ 4611686018427387904 / hold b := Int.ediv_nonneg (by omega) (by omega)
  have q1 : (4611686018427387904 : Int) / hold b ≤ 4611686018427387904 := Int.ediv_le_self _ (by omega)
  rw [if_neg (by decide), if_neg h2, Int.tdiv_eq_ediv_of_nonneg (show (0 : Int) ≤ 4611686018427387904 by omega), show wrap64 ((4611686018427387904 : Int) / hold b) = 4611686018427387904 / hold b from by unfold wrap64; omega]
  by_cases h : hold a * hold b > 4611686018427387904
  · rw [if_pos h, if_pos (by omega)]
  · rw [if_neg h, if_neg (by omega), show wrap64 (hold a * hold b) = hold a * hold b from by unfold wrap64; omega]
theorem div_both (a b : Int) : ∃ x, num_Div.f a b = some x ∧ turncockref1_Div.f a b = some x := by
  unfold num_Div.f turncockref1_Div.f
  rw [numhold_f, numhold_f, rhold_f, rhold_f]
  simp only [Option.bind_some]
  by_cases h : hold b = 0
  · simp only [if_pos h]; exact ⟨_, rfl, rfl⟩
  · simp only [if_neg h]; exact ⟨_, rfl, rfl⟩
theorem NumSums : turncocklaw1_NumSums.Pure := by
  intro a b _ _
  obtain ⟨K, hK⟩ := awake_ev
  obtain ⟨x, h1, h2⟩ := div_both a b
  refine ⟨K + 1, ?_⟩
  unfold turncocklaw1_NumSums.f
  rw [h1, h2, numhold_f, rhold_f, add_f, radd_f, sub_f, rsub_f, mul_f, rmul_f a b _ (by omega), hK _ (by omega)]
  simp

end Go.Proofs.Ytjiaombbjmhmoaa.Pure
