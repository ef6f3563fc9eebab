/- NumWide: a product is the least of the true one, in 128 bits, and the greatest number; a sum likewise; for every two numbers, no condition. -/
import Derived.Test.YtjiaombbjmhmoaaPNumWidex2
set_option linter.unusedSimpArgs false
set_option linter.unusedVariables false
namespace Go.Proofs.Ytjiaombbjmhmoaa.Pure
open Go.RowKit Go.Proofs.Ytjiaombbjmhmoaa.PNumWide Go.Proofs.YtjiaombbjmhmoaaW.PrintWords Go.Proofs.YtjiaombbjmhmoaaW.PrintLast Go.Proofs.YtjiaombbjmhmoaaW.PrintMore
open Go.Proofs.Ytjiaombbjmhmoaa

def hold (a : Int) : Int := if a < 0 then 0 else if a > 4611686018427387904 then 4611686018427387904 else a
theorem hold_rng (a : Int) : 0 ≤ hold a ∧ hold a ≤ 4611686018427387904 := by
  unfold hold
  repeat' split
  all_goals omega
theorem hold_in (a : Int) (h0 : 0 ≤ a) (h1 : a ≤ 4611686018427387904) : hold a = a := by
  unfold hold
  rw [if_neg (by omega), if_neg (by omega)]
theorem numhold_f (a : Int) : num_Hold.f a = some (hold a) := by
  unfold num_Hold.f hold mx mn
  congr 1
  repeat' split
  all_goals omega
def addH (a b : Int) : Int := if hold a + hold b > 4611686018427387904 then 4611686018427387904 else hold a + hold b
theorem add_f (a b : Int) : num_Add.f a b = some (addH a b) := by
  have ha := hold_rng a
  have hb := hold_rng b
  unfold num_Add.f addH
  rw [numhold_f, numhold_f]
  simp only [Option.bind_some]
  rw [show wrap64 (4611686018427387904 - hold b) = 4611686018427387904 - hold b from by unfold wrap64; omega]
  by_cases h : hold a + hold b > 4611686018427387904
  · rw [if_pos h, if_pos (by omega)]
  · rw [if_neg h, if_neg (by omega), show wrap64 (hold a + hold b) = hold a + hold b from by unfold wrap64; omega]
def mulH (a b : Int) : Int := if hold a * hold b > 4611686018427387904 then 4611686018427387904 else hold a * hold b
theorem mul_f (a b : Int) : num_Mul.f a b = some (mulH a b) := by
  have ha := hold_rng a
  have hb := hold_rng b
  have h0 : 0 ≤ hold a * hold b := Int.mul_nonneg ha.1 hb.1
  unfold num_Mul.f mulH
  rw [numhold_f, numhold_f]
  simp only [Option.bind_some]
  by_cases h1 : hold b > 0
  · have key : hold a ≤ 4611686018427387904 / hold b ↔ hold a * hold b ≤ 4611686018427387904 := Int.le_ediv_iff_mul_le h1
    rw [if_pos h1]
    by_cases h : hold a * hold b > 4611686018427387904
    · rw [if_pos h, if_pos (by omega)]
    · rw [if_neg h, if_neg (by omega), show wrap64 (hold a * hold b) = hold a * hold b from by unfold wrap64; omega]
  · have e : hold b = 0 := by omega
    rw [if_neg h1, e, Int.mul_zero]; simp [wrap64]
theorem awake_ev : ∃ K, ∀ k, K ≤ k → turncocklaw1_awake.f k = some true := Ev.of turncocklaw1_awake.mono (k := 30) (by decide +kernel)
def subH (a b : Int) : Int := if hold a < hold b then 0 else hold a - hold b
theorem sub_f (a b : Int) : num_Sub.f a b = some (subH a b) := by
  have ha := hold_rng a
  have hb := hold_rng b
  unfold num_Sub.f subH
  rw [numhold_f, numhold_f]
  simp only [Option.bind_some]
  rw [show wrap64 (hold a - hold b) = hold a - hold b from by unfold wrap64; omega]
  unfold mx
  congr 1
  repeat' split
  all_goals omega
theorem and32 (a : Int) (h0 : 0 ≤ a) (h1 : a ≤ 18446744073709551615) : Go.bits .and .u64 a 4294967295 = a % 4294967296 := by
  obtain ⟨n, rfl⟩ : ∃ n : Nat, a = n := ⟨a.toNat, by omega⟩
  show IntKind.u64.wrap ((BitVec.ofInt 64 (n : Int) &&& BitVec.ofInt 64 (4294967295 : Int)).toNat : Int) = _
  have e1 : (BitVec.ofInt 64 (n : Int)).toNat = n := by
    rw [BitVec.ofInt_natCast, BitVec.toNat_ofNat]; exact Nat.mod_eq_of_lt (by omega)
  have e2 : (BitVec.ofInt 64 (4294967295 : Int)).toNat = 2 ^ 32 - 1 := by decide
  rw [BitVec.toNat_and, e1, e2, Nat.and_two_pow_sub_one_eq_mod, IntKind.wrap_u64]
  omega
theorem parts (x y x1 x0 y1 y0 : Int) (hx : x = x1 * 4294967296 + x0) (hy : y = y1 * 4294967296 + y0) :
    x * y = (x1 * y1) * 18446744073709551616 + (x1 * y0 + x0 * y1) * 4294967296 + x0 * y0 := by
  subst hx hy
  rw [Int.add_mul, Int.mul_add, Int.mul_add]
  rw [show x1 * 4294967296 * (y1 * 4294967296) = (x1 * y1) * 18446744073709551616 from by
    rw [Int.mul_assoc, Int.mul_left_comm 4294967296, ← Int.mul_assoc, show (4294967296 * 4294967296 : Int) = 18446744073709551616 from rfl]]
  rw [show x1 * 4294967296 * y0 = (x1 * y0) * 4294967296 from by rw [Int.mul_assoc, Int.mul_comm 4294967296, ← Int.mul_assoc]]
  rw [show x0 * (y1 * 4294967296) = (x0 * y1) * 4294967296 from by rw [Int.mul_assoc]]
  omega
theorem mul64_f (x y : Int) (hx0 : 0 ≤ x) (hx : x ≤ 4611686018427387904) (hy0 : 0 ≤ y) (hy : y ≤ 4611686018427387904) :
    bits_Mul64.f x y = some (x * y / 18446744073709551616, x * y % 18446744073709551616) := by
  unfold bits_Mul64.f
  rw [and32 x hx0 (by omega), and32 y hy0 (by omega)]
  have e := parts x y (x / 4294967296) (x % 4294967296) (y / 4294967296) (y % 4294967296) (by omega) (by omega)
  have bx1 : 0 ≤ x / 4294967296 ∧ x / 4294967296 ≤ 1073741824 := by omega
  have by1 : 0 ≤ y / 4294967296 ∧ y / 4294967296 ≤ 1073741824 := by omega
  have bx0 : 0 ≤ x % 4294967296 ∧ x % 4294967296 ≤ 4294967295 := by omega
  have by0 : 0 ≤ y % 4294967296 ∧ y % 4294967296 ≤ 4294967295 := by omega
  generalize x / 4294967296 = x1 at *
  generalize x % 4294967296 = x0 at *
  generalize y / 4294967296 = y1 at *
  generalize y % 4294967296 = y0 at *
  have p11 : 0 ≤ x1 * y1 ∧ x1 * y1 ≤ 1073741824 * 1073741824 := ⟨Int.mul_nonneg bx1.1 by1.1, Int.mul_le_mul bx1.2 by1.2 by1.1 (by omega)⟩
  have p10 : 0 ≤ x1 * y0 ∧ x1 * y0 ≤ 1073741824 * 4294967295 := ⟨Int.mul_nonneg bx1.1 by0.1, Int.mul_le_mul bx1.2 by0.2 by0.1 (by omega)⟩
  have p01 : 0 ≤ x0 * y1 ∧ x0 * y1 ≤ 4294967295 * 1073741824 := ⟨Int.mul_nonneg bx0.1 by1.1, Int.mul_le_mul bx0.2 by1.2 by1.1 (by omega)⟩
  have p00 : 0 ≤ x0 * y0 ∧ x0 * y0 ≤ 4294967295 * 4294967295 := ⟨Int.mul_nonneg bx0.1 by0.1, Int.mul_le_mul bx0.2 by0.2 by0.1 (by omega)⟩
  generalize x1 * y1 = a11 at *
  generalize x1 * y0 = a10 at *
  generalize x0 * y1 = a01 at *
  generalize x0 * y0 = a00 at *
  rw [IntKind.wrap_u64, IntKind.wrap_u64, IntKind.wrap_u64, IntKind.wrap_u64, IntKind.wrap_u64, IntKind.wrap_u64, IntKind.wrap_u64, IntKind.wrap_u64, IntKind.wrap_u64]
  have t0 : a10 % 18446744073709551616 = a10 := by omega
  have t1 : a00 % 18446744073709551616 = a00 := by omega
  have t2 : a11 % 18446744073709551616 = a11 := by omega
  have t3 : a01 % 18446744073709551616 = a01 := by omega
  rw [t0, t1, t2, t3]
  have t4 : (a10 + a00 / 4294967296) % 18446744073709551616 = a10 + a00 / 4294967296 := by omega
  rw [t4, and32 _ (by omega) (by omega)]
  congr 2
  rw [e]
  omega
theorem NumWide : turncocklaw1_NumWide.Pure := by
  intro a b _ _
  obtain ⟨K, hK⟩ := awake_ev
  have ha := hold_rng a
  have hb := hold_rng b
  have h0 : 0 ≤ hold a * hold b := Int.mul_nonneg ha.1 hb.1
  have hm : hold a * hold b ≤ 4611686018427387904 * 4611686018427387904 := Int.mul_le_mul ha.2 hb.2 hb.1 (by omega)
  refine ⟨K + 3, ?_⟩
  unfold turncocklaw1_NumWide.f
  rw [numhold_f, numhold_f]
  simp only [Option.bind_some]
  rw [if_neg (by omega), if_neg (by omega), if_neg (by omega), decide_eq_false (by omega)]
  simp only [turncocklaw1_NumWide.j0]
  have wx : IntKind.u64.wrap (hold a) = hold a := by rw [IntKind.wrap_u64]; omega
  have wy : IntKind.u64.wrap (hold b) = hold b := by rw [IntKind.wrap_u64]; omega
  rw [if_neg (by decide), wx, wy, mul64_f _ _ ha.1 ha.2 hb.1 hb.2]
  simp only [Option.bind_some]
  have fin : ∀ v : Int, v = mulH a b → turncocklaw1_NumWide.j2 (K + 1) a b (hold a) (hold b) v = some true := by
    intro v hv
    have hmul : 0 ≤ mulH a b ∧ mulH a b ≤ 4611686018427387904 := by unfold mulH; split <;> omega
    simp only [turncocklaw1_NumWide.j2]
    rw [mul_f, add_f, sub_f, hK _ (by omega), wx, wy]
    simp only [Option.bind_some]
    rw [add_f]
    simp only [Option.bind_some]
    have e1 : IntKind.u64.wrap (mulH a b) = v := by rw [hv, IntKind.wrap_u64]; omega
    have e2 : IntKind.u64.wrap (addH a b) = mn (IntKind.u64.wrap (hold a + hold b)) 4611686018427387904 := by
      rw [IntKind.wrap_u64, IntKind.wrap_u64]; unfold addH mn
      repeat' split
      all_goals omega
    have e3 : addH (subH a b) (mn (hold a) (hold b)) = hold a := by
      have s1 : hold (subH a b) = subH a b := hold_in _ (by unfold subH; split <;> omega) (by unfold subH; split <;> omega)
      have s2 : hold (mn (hold a) (hold b)) = mn (hold a) (hold b) := hold_in _ (by unfold mn; split <;> omega) (by unfold mn; split <;> omega)
      unfold addH
      rw [s1, s2]
      unfold subH mn
      repeat' split
      all_goals omega
    rw [if_pos e1, if_pos e2, if_pos e3]
  by_cases h1 : hold a * hold b / 18446744073709551616 = 0
  · rw [if_pos h1]
    by_cases h2 : hold a * hold b % 18446744073709551616 < 4611686018427387904
    · rw [decide_eq_true h2]
      simp only [turncocklaw1_NumWide.j1, if_true]
      exact fin _ (by unfold mulH; split <;> omega)
    · rw [decide_eq_false h2]
      simp only [turncocklaw1_NumWide.j1]
      exact fin _ (by unfold mulH; split <;> omega)
  · rw [if_neg h1]
    simp only [turncocklaw1_NumWide.j1]
    exact fin _ (by unfold mulH; split <;> omega)

end Go.Proofs.Ytjiaombbjmhmoaa.Pure
