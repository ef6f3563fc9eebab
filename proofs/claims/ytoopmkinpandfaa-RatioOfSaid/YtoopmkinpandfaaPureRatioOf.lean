/- RatioOf: a quotient is that of IEEE 754: a NaN of 0 by 0, an infinity of others by 0, -0 of 0 by what is below 0; for every two numbers, no condition. -/
import Derived.Test.YtoopmkinpandfaaPRatioOfx5
import Derived.Test.YtoopmkinpandfaaFth
set_option linter.unusedSimpArgs false
set_option linter.unusedVariables false
namespace Go.Proofs.Ytoopmkinpandfaa.Pure
open Go.RowKit Go.Proofs.Ytoopmkinpandfaa.PRatioOf Go.Proofs.YtoopmkinpandfaaW.PrintWords Go.Proofs.YtoopmkinpandfaaW.PrintLast Go.Proofs.YtoopmkinpandfaaW.PrintMore
open Go.Proofs.Ytoopmkinpandfaa

open Flt
theorem isnan_f (x : Nat) : math_IsNaN.f x = some (fnan x) := by unfold math_IsNaN.f; rw [fne_self]
theorem signbit_f (x : Nat) (h : x < 18446744073709551616) : math_Signbit.f x = some (sg x) := by unfold math_Signbit.f; rw [fsign_sg x h]
theorem bits_of {b : Int} (h : (Lit.int .u64 b).wf = true) : b.toNat < 18446744073709551616 := by
  have h2 : IntKind.min .u64 ≤ b ∧ b ≤ IntKind.max .u64 := by simpa [Lit.wf] using h
  have e1 : IntKind.min .u64 = 0 := by decide
  have e2 : IntKind.max .u64 = 18446744073709551615 := by decide
  omega
theorem int_of {b : Int} (h : (Lit.int .i64 b).wf = true) : -9223372036854775808 ≤ b ∧ b ≤ 9223372036854775807 := by
  have h2 : IntKind.min .i64 ≤ b ∧ b ≤ IntKind.max .i64 := by simpa [Lit.wf] using h
  have e1 : IntKind.min .i64 = -9223372036854775808 := by decide
  have e2 : IntKind.max .i64 = 9223372036854775807 := by decide
  omega
theorem key_zero : key 0 = 0 := by decide
theorem key_one : key 4607182418800017408 = 4607182418800017408 := by decide
theorem nn {x : Nat} (h : fnan x = false) : rung x ≤ top := not_nan x h
theorem yn {x : Nat} (h : fnan x = true) : top < rung x := (fnan_iff x).1 h
theorem cmpf_f (x y : Nat) (hx : fnan x = false) (hy : fnan y = false) : cmp_Compare_float64.f x y = some (sgn (key x - key y)) := by
  unfold cmp_Compare_float64.f cmp_isNaN_float64.f
  rw [fne_self, fne_self, hx, hy]
  simp only [Option.bind_some, Bool.false_eq_true, if_false]
  rw [flt_key x y (nn hx) (nn hy), fgt_key x y (nn hx) (nn hy)]
  simp only [decide_eq_true_eq]
  unfold sgn
  by_cases h1 : key x < key y
  · rw [if_pos h1, if_pos (show key x - key y < 0 by omega)]
  · rw [if_neg h1, if_neg (show ¬ key x - key y < 0 by omega)]
    by_cases h2 : key y < key x
    · rw [if_pos h2, if_neg (show ¬ key x - key y = 0 by omega)]
    · rw [if_neg h2, if_pos (show key x - key y = 0 by omega)]
theorem cmpi_f (x y : Int) : cmp_Compare_int.f x y = some (sgn (x - y)) := by
  unfold cmp_Compare_int.f cmp_isNaN_int.f
  rw [show (x != x) = false by simp, show (y != y) = false by simp]
  simp only [Option.bind_some, Bool.false_eq_true, if_false]
  unfold sgn
  by_cases h1 : x < y
  · rw [if_pos h1, if_pos (by omega)]
  · rw [if_neg h1, if_neg (show ¬ x - y < 0 by omega)]
    by_cases h2 : x > y
    · rw [if_pos h2, if_neg (by omega)]
    · rw [if_neg h2, if_pos (by omega)]
theorem place_f (x : Nat) : ratio_place.f x = some (if fnan x then 2 else sgn (key x)) := by
  unfold ratio_place.f
  rw [isnan_f]
  simp only [Option.bind_some]
  cases h : fnan x with
  | true => rfl
  | false =>
    rw [if_neg (by decide), if_neg (by decide), cmpf_f x 0 h (by decide), key_zero]
    simp
theorem sgn_cases (a : Int) : (a < 0 ∧ sgn a = -1) ∨ (a = 0 ∧ sgn a = 0) ∨ (0 < a ∧ sgn a = 1) := by
  unfold sgn
  by_cases h1 : a < 0
  · rw [if_pos h1]; exact .inl ⟨h1, rfl⟩
  · rw [if_neg h1]
    by_cases h2 : a = 0
    · rw [if_pos h2]; exact .inr (.inl ⟨h2, rfl⟩)
    · rw [if_neg h2]; exact .inr (.inr ⟨by omega, rfl⟩)
theorem sgn_of_lt {a : Int} (h : a < 0) : sgn a = -1 := by rcases sgn_cases a with h1 | h1 | h1 <;> omega
theorem sgn_of_gt {a : Int} (h : 0 < a) : sgn a = 1 := by rcases sgn_cases a with h1 | h1 | h1 <;> omega
theorem rank_top (x : Nat) (h : fnan x = false) : rank x < 9223372036854775807 := (rank_num x h).1
/-- the order of two floats: by their ranks -/
theorem order_f (x y : Nat) (hx : x < 18446744073709551616) (hy : y < 18446744073709551616) : ratio_Order.f x y = some (sgn (rank x - rank y)) := by
  unfold ratio_Order.f
  rw [place_f, place_f]
  simp only [Option.bind_some]
  cases nx : fnan x with
  | true =>
    cases ny : fnan y with
    | true =>
      simp only [if_true]
      rw [rank_nan x nx, rank_nan y ny]
      rfl
    | false =>
      simp only [if_true, Bool.false_eq_true, if_false]
      have := rank_top y ny
      have h0 := rank_nan x nx
      rw [sgn_of_gt (show 0 < rank x - rank y by omega)]
      rcases sgn_cases (key y) with ⟨_, e⟩ | ⟨_, e⟩ | ⟨_, e⟩ <;> rw [e] <;> rw [if_neg (by decide), cmpi_f] <;> rfl
  | false =>
    cases ny : fnan y with
    | true =>
      simp only [if_true, Bool.false_eq_true, if_false]
      have := rank_top x nx
      have h0 := rank_nan y ny
      rw [sgn_of_lt (show rank x - rank y < 0 by omega)]
      rcases sgn_cases (key x) with ⟨_, e⟩ | ⟨_, e⟩ | ⟨_, e⟩ <;> rw [e] <;> rw [if_neg (by decide), cmpi_f] <;> rfl
    | false =>
      simp only [Bool.false_eq_true, if_false]
      by_cases hs : sgn (key x) = sgn (key y)
      · rw [if_pos hs, if_neg (by rcases sgn_cases (key x) with h1 | h1 | h1 <;> omega)]
        by_cases h0 : sgn (key x) = 0
        · rw [if_pos h0, signbit_f x hx, signbit_f y hy]
          simp only [Option.bind_some]
          have k1 : key x = 0 := by rcases sgn_cases (key x) with h1 | h1 | h1 <;> omega
          have k2 : key y = 0 := by rcases sgn_cases (key y) with h1 | h1 | h1 <;> omega
          rw [rank_zero x nx k1, rank_zero y ny k2]
          cases sg x <;> cases sg y <;> rfl
        · rw [if_neg h0, cmpf_f x y nx ny]
          simp only [Option.bind_some]
          have k0 : key x ≠ 0 := fun h => h0 (by rw [h]; rfl)
          rcases sgn_cases (key x - key y) with ⟨h1, e⟩ | ⟨h1, e⟩ | ⟨h1, e⟩ <;> rw [e]
          · rw [sgn_of_lt (by have := rank_lt x y nx ny (by omega); omega)]
          · rw [show rank x - rank y = 0 by have := rank_eq x y nx ny (by omega) k0; omega]; rfl
          · rw [sgn_of_gt (by have := rank_lt y x ny nx (by omega); omega)]
      · rw [if_neg hs, cmpi_f]
        simp only [Option.bind_some]
        rcases sgn_cases (key x) with ⟨h1, e1⟩ | ⟨h1, e1⟩ | ⟨h1, e1⟩ <;> rcases sgn_cases (key y) with ⟨h2, e2⟩ | ⟨h2, e2⟩ | ⟨h2, e2⟩ <;> rw [e1, e2] at hs ⊢ <;> first
          | exact absurd rfl hs
          | (rw [sgn_of_lt (show rank x - rank y < 0 by have := rank_lt x y nx ny (by omega); omega)]; rfl)
          | (rw [sgn_of_gt (show 0 < rank x - rank y by have := rank_lt y x ny nx (by omega); omega)]; rfl)
theorem same_f (x y : Nat) (hx : x < 18446744073709551616) (hy : y < 18446744073709551616) : ratio_Same.f x y = some (sgn (rank x - rank y) == 0) := by
  unfold ratio_Same.f
  rw [order_f x y hx hy]
  rfl
theorem reforder_f (x y : Nat) (hx : x < 18446744073709551616) (hy : y < 18446744073709551616) (k : Nat) (hk : 2 ≤ k) : turncockref1_Order.f k x y = some (sgn (rank x - rank y)) := by
  obtain ⟨k, rfl⟩ : ∃ m, k = m + 2 := ⟨k - 2, by omega⟩
  unfold turncockref1_Order.f
  rw [isnan_f, isnan_f]
  simp only [Option.bind_some]
  cases nx : fnan x with
  | true =>
    rw [if_pos rfl]
    simp only [turncockref1_Order.j0, if_true]
    rw [isnan_f, isnan_f]
    simp only [Option.bind_some]
    rw [nx, if_pos rfl]
    cases ny : fnan y with
    | true =>
      simp only [turncockref1_Order.j1, if_true]
      rw [rank_nan x nx, rank_nan y ny]; rfl
    | false =>
      simp only [turncockref1_Order.j1, Bool.false_eq_true, if_false]
      rw [isnan_f]
      simp only [Option.bind_some]
      rw [nx, if_pos rfl]
      have := rank_top y ny
      have h0 := rank_nan x nx
      rw [sgn_of_gt (show 0 < rank x - rank y by omega)]
  | false =>
    rw [if_neg (by decide)]
    cases ny : fnan y with
    | true =>
      simp only [turncockref1_Order.j0, if_true]
      rw [isnan_f]
      simp only [Option.bind_some]
      rw [nx, if_neg (by decide)]
      simp only [turncockref1_Order.j1, Bool.false_eq_true, if_false]
      rw [isnan_f]
      simp only [Option.bind_some]
      rw [nx, if_neg (by decide)]
      have := rank_top x nx
      have h0 := rank_nan y ny
      rw [sgn_of_lt (show rank x - rank y < 0 by omega)]
    | false =>
      simp only [turncockref1_Order.j0, Bool.false_eq_true, if_false]
      rw [flt_key x y (nn nx) (nn ny), fgt_key x y (nn nx) (nn ny), signbit_f x hx, signbit_f y hy]
      simp only [Option.bind_some, decide_eq_true_eq]
      by_cases h1 : key x < key y
      · rw [if_pos h1, sgn_of_lt (by have := rank_lt x y nx ny h1; omega)]
      · rw [if_neg h1]
        by_cases h2 : key y < key x
        · rw [if_pos h2, sgn_of_gt (by have := rank_lt y x ny nx h2; omega)]
        · rw [if_neg h2]
          by_cases h0 : key x = 0
          · rw [rank_zero x nx h0, rank_zero y ny (by omega)]
            cases sg x <;> cases sg y <;> rfl
          · have hr := rank_eq x y nx ny (by omega) h0
            have hsx : sg x = sg y := by
              have e1 : key x = if sg x then -(rung x : Int) else (rung x : Int) := rfl
              have e2 : key y = if sg y then -(rung y : Int) else (rung y : Int) := rfl
              cases h3 : sg x <;> cases h4 : sg y <;> rw [h3] at e1 <;> rw [h4] at e2 <;> simp only [if_true, Bool.false_eq_true, if_false] at e1 e2 <;> first | rfl | omega
            rw [hsx]
            rw [show (sg y == sg y) = true by simp, if_pos rfl, show rank x - rank y = 0 by omega]
            rfl
theorem abs_f (x : Nat) (h : x < 18446744073709551616) : math_Abs.f x = some (rung x) := by unfold math_Abs.f; rw [fabs_rung x h]
theorem isinf_any (x : Nat) (hx : x < 18446744073709551616) (hn : fnan x = false) : math_IsInf.f x 0 = some (decide (rung x = top)) := by
  have hr := not_nan x hn
  have ht := top_lt
  have ht2 : top = 9218868437227405312 := rfl
  unfold math_IsInf.f
  rw [if_pos rfl, abs_f x hx]
  simp only [Option.bind_some]
  rw [fgt_key (rung x) _ (by rw [rung_of _ (rung_lt x)]; exact hr) (by decide), key_of (rung x) (rung_lt x), show key 9218868437227405311 = 9218868437227405311 by decide]
  congr 1
  rw [decide_eq_decide]; omega
theorem awake_ev : ∃ K, ∀ k, K ≤ k → turncocklaw5_awake.f k = some true := Ev.of turncocklaw5_awake.mono (k := 40) (by decide +kernel)
theorem word_ok (s : Bool) (r : Nat) (h : r ≤ top) : Ieee.double.word s r < 18446744073709551616 ∧ sg (Ieee.double.word s r) = s ∧ rung (Ieee.double.word s r) = r ∧ fnan (Ieee.double.word s r) = false := by
  have ht := top_lt
  refine ⟨word_lt s r (by omega), word_sg s r (by omega), word_rung s r (by omega), ?_⟩
  have e : fnan (Ieee.double.word s r) = decide (top < rung (Ieee.double.word s r)) := rfl
  rw [e, word_rung s r (by omega)]
  exact decide_eq_false (by omega)
theorem alike_self (x : Nat) (hx : x < 18446744073709551616) (k : Nat) (hk : 2 ≤ k) : turncockref1_Alike.f k x x = some true := by
  unfold turncockref1_Alike.f
  rw [reforder_f x x hx hx k hk, show rank x - rank x = 0 by omega]
  rfl
theorem RatioOf : turncocklaw5_RatioOf.Pure := by
  intro n d wn wd
  have hn := int_of wn
  have hd := int_of wd
  obtain ⟨K, hK⟩ := awake_ev
  refine ⟨K + 10, ?_⟩
  have hw := hK (K + 9) (by omega)
  unfold turncocklaw5_RatioOf.f ratio_Of.f turncockref1_Of.f
  simp only [Option.bind_some]
  by_cases h0 : d = 0
  · subst h0
    by_cases h1 : n = 0
    · subst h1
      have e : fquoT (fofi 0) (fofi 0) = 9221120237041090561 := by decide +kernel
      rw [e, alike_self _ (by omega) _ (by omega)]
      simp only [Option.bind_some, if_true, beq_self_eq_true, turncocklaw5_RatioOf.j0]
      rw [isnan_f, show fnan 9221120237041090561 = true by decide, hw]
      rfl
    · obtain ⟨e1, e2⟩ := quo_zero n (by omega) h1
      have e : fquoT (fofi n) (fofi 0) = Ieee.double.word (decide (n < 0)) top := by unfold fquoT; rw [if_pos e1, e2]
      obtain ⟨w1, w2, w3, w4⟩ := word_ok (decide (n < 0)) top (Nat.le_refl _)
      rw [e, alike_self _ w1 _ (by omega)]
      simp only [Option.bind_some, if_true]
      rw [show (n == 0) = false from beq_eq_false_iff_ne.2 h1]
      simp only [turncocklaw5_RatioOf.j0, Bool.false_eq_true, if_false, if_true]
      rw [isinf_any _ w1 w4, w3, signbit_f _ w1, w2, hw]
      simp
  · obtain ⟨R, e1, e2, e3⟩ := quo_int n d (by omega) (by omega) h0
    have e : fquoT (fofi n) (fofi d) = Ieee.double.word (decide (n < 0) ^^ decide (d < 0)) (min R top) := by unfold fquoT; rw [if_pos e1, e2]
    obtain ⟨w1, w2, w3, w4⟩ := word_ok (decide (n < 0) ^^ decide (d < 0)) (min R top) (Nat.min_le_right _ _)
    rw [e, alike_self _ w1 _ (by omega)]
    simp only [Option.bind_some, if_true]
    rw [if_neg h0]
    simp only [turncocklaw5_RatioOf.j0, Bool.false_eq_true, if_false]
    rw [if_neg h0, signbit_f _ w1, w2, hw]
    simp only [Option.bind_some]
    rw [if_pos (by cases decide (n < 0) <;> cases decide (d < 0) <;> rfl)]
    have hz : feq (Ieee.double.word (decide (n < 0) ^^ decide (d < 0)) (min R top)) 0 = (n == 0) := by
      rw [feq_key _ 0 (nn w4) (by decide), key_zero]
      have hk : key (Ieee.double.word (decide (n < 0) ^^ decide (d < 0)) (min R top)) = 0 ↔ n = 0 := by
        unfold key
        rw [w2, w3, ← e3]
        have ht : top = 9218868437227405312 := rfl
        split <;> omega
      by_cases h1 : n = 0
      · rw [decide_eq_true (hk.2 h1), h1]; rfl
      · rw [decide_eq_false (fun h => h1 (hk.1 h)), show (n == 0) = false from beq_eq_false_iff_ne.2 h1]
    rw [hz, if_pos (by simp)]

end Go.Proofs.Ytoopmkinpandfaa.Pure
