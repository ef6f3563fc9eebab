/- RuleSame: two rules are the same just as the document says: NaNs are alike, +0 and -0 are not; for all rules and bits, no condition. -/
import Derived.Test.YtofebccpghkmgaaPRuleSamex8
import Derived.Test.YtofebccpghkmgaaTRuleSameFth
set_option linter.unusedSimpArgs false
set_option linter.unusedVariables false
namespace Go.Proofs.Ytofebccpghkmgaa.Pure
open Go.RowKit Go.Proofs.Ytofebccpghkmgaa.PRuleSame Go.Proofs.YtofebccpghkmgaaW.PrintWords Go.Proofs.YtofebccpghkmgaaW.PrintLast Go.Proofs.YtofebccpghkmgaaW.PrintMore
open Go.Proofs.Ytofebccpghkmgaa

open Flt
theorem isnan_f (x : Nat) : math_IsNaN.f x = some (fnan x) := by unfold math_IsNaN.f; rw [fne_self]
theorem signbit_f (x : Nat) (h : x < 18446744073709551616) : math_Signbit.f x = some (sg x) := by unfold math_Signbit.f; rw [fsign_sg x h]
theorem bits_of {b : Int} (h : (Lit.int .u64 b).wf = true) : b.toNat < 18446744073709551616 := by
  have h2 : IntKind.min .u64 ≤ b ∧ b ≤ IntKind.max .u64 := by simpa [Lit.wf] using h
  have e1 : IntKind.min .u64 = 0 := by decide
  have e2 : IntKind.max .u64 = 18446744073709551615 := by decide
  omega
theorem int_of {b : Int} (h : (Lit.int .i64 b).wf = true) : -9223372036854775808 ≤ b ∧ b ≤ 9223372036854775807 := by
  have h2 : IntKind.min .i64 ≤ b ∧ b ≤ IntKind.max .i64 := by simpa [Lit.wf] using h
  have e1 : IntKind.min .i64 = -9223372036854775808 := by decide
  have e2 : IntKind.max .i64 = 9223372036854775807 := by decide
  omega
theorem key_zero : key 0 = 0 := by decide
theorem key_one : key 4607182418800017408 = 4607182418800017408 := by decide
theorem nn {x : Nat} (h : fnan x = false) : rung x ≤ top := not_nan x h
theorem yn {x : Nat} (h : fnan x = true) : top < rung x := (fnan_iff x).1 h
theorem cmpf_f (x y : Nat) (hx : fnan x = false) (hy : fnan y = false) : cmp_Compare_float64.f x y = some (sgn (key x - key y)) := by
  unfold cmp_Compare_float64.f cmp_isNaN_float64.f
  rw [fne_self, fne_self, hx, hy]
  simp only [Option.bind_some, Bool.false_eq_true, if_false]
  rw [flt_key x y (nn hx) (nn hy), fgt_key x y (nn hx) (nn hy)]
  simp only [decide_eq_true_eq]
  unfold sgn
  by_cases h1 : key x < key y
  · rw [if_pos h1, if_pos (show key x - key y < 0 by omega)]
  · rw [if_neg h1, if_neg (show ¬ key x - key y < 0 by omega)]
    by_cases h2 : key y < key x
    · rw [if_pos h2, if_neg (show ¬ key x - key y = 0 by omega)]
    · rw [if_neg h2, if_pos (show key x - key y = 0 by omega)]
theorem cmpi_f (x y : Int) : cmp_Compare_int.f x y = some (sgn (x - y)) := by
  unfold cmp_Compare_int.f cmp_isNaN_int.f
  rw [show (x != x) = false by simp, show (y != y) = false by simp]
  simp only [Option.bind_some, Bool.false_eq_true, if_false]
  unfold sgn
  by_cases h1 : x < y
  · rw [if_pos h1, if_pos (by omega)]
  · rw [if_neg h1, if_neg (show ¬ x - y < 0 by omega)]
    by_cases h2 : x > y
    · rw [if_pos h2, if_neg (by omega)]
    · rw [if_neg h2, if_pos (by omega)]
theorem place_f (x : Nat) : ratio_place.f x = some (if fnan x then 2 else sgn (key x)) := by
  unfold ratio_place.f
  rw [isnan_f]
  simp only [Option.bind_some]
  cases h : fnan x with
  | true => rfl
  | false =>
    rw [if_neg (by decide), if_neg (by decide), cmpf_f x 0 h (by decide), key_zero]
    simp
theorem sgn_cases (a : Int) : (a < 0 ∧ sgn a = -1) ∨ (a = 0 ∧ sgn a = 0) ∨ (0 < a ∧ sgn a = 1) := by
  unfold sgn
  by_cases h1 : a < 0
  · rw [if_pos h1]; exact .inl ⟨h1, rfl⟩
  · rw [if_neg h1]
    by_cases h2 : a = 0
    · rw [if_pos h2]; exact .inr (.inl ⟨h2, rfl⟩)
    · rw [if_neg h2]; exact .inr (.inr ⟨by omega, rfl⟩)
theorem sgn_of_lt {a : Int} (h : a < 0) : sgn a = -1 := by rcases sgn_cases a with h1 | h1 | h1 <;> omega
theorem sgn_of_gt {a : Int} (h : 0 < a) : sgn a = 1 := by rcases sgn_cases a with h1 | h1 | h1 <;> omega
theorem rank_top (x : Nat) (h : fnan x = false) : rank x < 9223372036854775807 := (rank_num x h).1
/-- the order of two floats: by their ranks -/
theorem order_f (x y : Nat) (hx : x < 18446744073709551616) (hy : y < 18446744073709551616) : ratio_Order.f x y = some (sgn (rank x - rank y)) := by
  unfold ratio_Order.f
  rw [place_f, place_f]
  simp only [Option.bind_some]
  cases nx : fnan x with
  | true =>
    cases ny : fnan y with
    | true =>
      simp only [if_true]
      rw [rank_nan x nx, rank_nan y ny]
      rfl
    | false =>
      simp only [if_true, Bool.false_eq_true, if_false]
      have := rank_top y ny
      have h0 := rank_nan x nx
      rw [sgn_of_gt (show 0 < rank x - rank y by omega)]
      rcases sgn_cases (key y) with ⟨_, e⟩ | ⟨_, e⟩ | ⟨_, e⟩ <;> rw [e] <;> rw [if_neg (by decide), cmpi_f] <;> rfl
  | false =>
    cases ny : fnan y with
    | true =>
      simp only [if_true, Bool.false_eq_true, if_false]
      have := rank_top x nx
      have h0 := rank_nan y ny
      rw [sgn_of_lt (show rank x - rank y < 0 by omega)]
      rcases sgn_cases (key x) with ⟨_, e⟩ | ⟨_, e⟩ | ⟨_, e⟩ <;> rw [e] <;> rw [if_neg (by decide), cmpi_f] <;> rfl
    | false =>
      simp only [Bool.false_eq_true, if_false]
      by_cases hs : sgn (key x) = sgn (key y)
      · rw [if_pos hs, if_neg (by rcases sgn_cases (key x) with h1 | h1 | h1 <;> omega)]
        by_cases h0 : sgn (key x) = 0
        · rw [if_pos h0, signbit_f x hx, signbit_f y hy]
          simp only [Option.bind_some]
          have k1 : key x = 0 := by rcases sgn_cases (key x) with h1 | h1 | h1 <;> omega
          have k2 : key y = 0 := by rcases sgn_cases (key y) with h1 | h1 | h1 <;> omega
          rw [rank_zero x nx k1, rank_zero y ny k2]
          cases sg x <;> cases sg y <;> rfl
        · rw [if_neg h0, cmpf_f x y nx ny]
          simp only [Option.bind_some]
          have k0 : key x ≠ 0 := fun h => h0 (by rw [h]; rfl)
          rcases sgn_cases (key x - key y) with ⟨h1, e⟩ | ⟨h1, e⟩ | ⟨h1, e⟩ <;> rw [e]
          · rw [sgn_of_lt (by have := rank_lt x y nx ny (by omega); omega)]
          · rw [show rank x - rank y = 0 by have := rank_eq x y nx ny (by omega) k0; omega]; rfl
          · rw [sgn_of_gt (by have := rank_lt y x ny nx (by omega); omega)]
      · rw [if_neg hs, cmpi_f]
        simp only [Option.bind_some]
        rcases sgn_cases (key x) with ⟨h1, e1⟩ | ⟨h1, e1⟩ | ⟨h1, e1⟩ <;> rcases sgn_cases (key y) with ⟨h2, e2⟩ | ⟨h2, e2⟩ | ⟨h2, e2⟩ <;> rw [e1, e2] at hs ⊢ <;> first
          | exact absurd rfl hs
          | (rw [sgn_of_lt (show rank x - rank y < 0 by have := rank_lt x y nx ny (by omega); omega)]; rfl)
          | (rw [sgn_of_gt (show 0 < rank x - rank y by have := rank_lt y x ny nx (by omega); omega)]; rfl)
theorem same_f (x y : Nat) (hx : x < 18446744073709551616) (hy : y < 18446744073709551616) : ratio_Same.f x y = some (sgn (rank x - rank y) == 0) := by
  unfold ratio_Same.f
  rw [order_f x y hx hy]
  rfl
theorem reforder_f (x y : Nat) (hx : x < 18446744073709551616) (hy : y < 18446744073709551616) (k : Nat) (hk : 2 ≤ k) : turncockref1_Order.f k x y = some (sgn (rank x - rank y)) := by
  obtain ⟨k, rfl⟩ : ∃ m, k = m + 2 := ⟨k - 2, by omega⟩
  unfold turncockref1_Order.f
  rw [isnan_f, isnan_f]
  simp only [Option.bind_some]
  cases nx : fnan x with
  | true =>
    rw [if_pos rfl]
    simp only [turncockref1_Order.j0, if_true]
    rw [isnan_f, isnan_f]
    simp only [Option.bind_some]
    rw [nx, if_pos rfl]
    cases ny : fnan y with
    | true =>
      simp only [turncockref1_Order.j1, if_true]
      rw [rank_nan x nx, rank_nan y ny]; rfl
    | false =>
      simp only [turncockref1_Order.j1, Bool.false_eq_true, if_false]
      rw [isnan_f]
      simp only [Option.bind_some]
      rw [nx, if_pos rfl]
      have := rank_top y ny
      have h0 := rank_nan x nx
      rw [sgn_of_gt (show 0 < rank x - rank y by omega)]
  | false =>
    rw [if_neg (by decide)]
    cases ny : fnan y with
    | true =>
      simp only [turncockref1_Order.j0, if_true]
      rw [isnan_f]
      simp only [Option.bind_some]
      rw [nx, if_neg (by decide)]
      simp only [turncockref1_Order.j1, Bool.false_eq_true, if_false]
      rw [isnan_f]
      simp only [Option.bind_some]
      rw [nx, if_neg (by decide)]
      have := rank_top x nx
      have h0 := rank_nan y ny
      rw [sgn_of_lt (show rank x - rank y < 0 by omega)]
    | false =>
      simp only [turncockref1_Order.j0, Bool.false_eq_true, if_false]
      rw [flt_key x y (nn nx) (nn ny), fgt_key x y (nn nx) (nn ny), signbit_f x hx, signbit_f y hy]
      simp only [Option.bind_some, decide_eq_true_eq]
      by_cases h1 : key x < key y
      · rw [if_pos h1, sgn_of_lt (by have := rank_lt x y nx ny h1; omega)]
      · rw [if_neg h1]
        by_cases h2 : key y < key x
        · rw [if_pos h2, sgn_of_gt (by have := rank_lt y x ny nx h2; omega)]
        · rw [if_neg h2]
          by_cases h0 : key x = 0
          · rw [rank_zero x nx h0, rank_zero y ny (by omega)]
            cases sg x <;> cases sg y <;> rfl
          · have hr := rank_eq x y nx ny (by omega) h0
            have hsx : sg x = sg y := by
              have e1 : key x = if sg x then -(rung x : Int) else (rung x : Int) := rfl
              have e2 : key y = if sg y then -(rung y : Int) else (rung y : Int) := rfl
              cases h3 : sg x <;> cases h4 : sg y <;> rw [h3] at e1 <;> rw [h4] at e2 <;> simp only [if_true, Bool.false_eq_true, if_false] at e1 e2 <;> first | rfl | omega
            rw [hsx]
            rw [show (sg y == sg y) = true by simp, if_pos rfl, show rank x - rank y = 0 by omega]
            rfl
theorem awake_ev : ∃ K, ∀ k, K ≤ k → turncocklaw16_awake.f k = some true := Ev.of turncocklaw16_awake.mono (k := 400) (by decide +kernel)
theorem rof_f (s : ByteArray) (u l : Int) (x : Nat) (sh un : Bool) (b : Int) : turncocklaw16_of.f s u l x sh un b = some (s, u, l, b.toNat, sh, un) := rfl
def sameV (s t : ByteArray) (u v l m : Int) (x y : Nat) (sh sh' un un' : Bool) : Bool := decide (rank x = rank y) && (decide (s.toList = t.toList) && (decide (u = v) && (decide (l = m) && ((sh == sh') && (un == un')))))
theorem rsame_f (s t : ByteArray) (u v l m : Int) (x y : Nat) (sh sh' un un' : Bool) (hx : x < 18446744073709551616) (hy : y < 18446744073709551616) : rule_Same.f s u l x sh un t v m y sh' un' = some (sameV s t u v l m x y sh sh' un un') := by
  unfold rule_Same.f sameV
  rw [same_f x y hx hy]
  simp only [Option.bind_some]
  have e : (sgn (rank x - rank y) == 0) = decide (rank x = rank y) := by
    rw [show (sgn (rank x - rank y) == 0) = decide (rank x - rank y = 0) from by
      rcases sgn_cases (rank x - rank y) with ⟨h, e⟩ | ⟨h, e⟩ | ⟨h, e⟩ <;> rw [e]
      · rw [decide_eq_false (by omega)]; rfl
      · rw [decide_eq_true h]; rfl
      · rw [decide_eq_false (by omega)]; rfl]
    rw [decide_eq_decide]; omega
  rw [e]
  by_cases h0 : rank x = rank y
  · rw [if_pos (decide_eq_true h0), decide_eq_true h0]
    rw [show feq 0 0 = true from by decide +kernel]
    congr 1
    have a1 : (s.toList == t.toList) = decide (s.toList = t.toList) := by
      by_cases h : s.toList = t.toList
      · rw [decide_eq_true h]; exact beq_iff_eq.2 h
      · rw [decide_eq_false h]; exact beq_eq_false_iff_ne.2 h
    have a2 : (u == v) = decide (u = v) := by
      by_cases h : u = v
      · rw [decide_eq_true h]; exact beq_iff_eq.2 h
      · rw [decide_eq_false h]; exact beq_eq_false_iff_ne.2 h
    have a3 : (l == m) = decide (l = m) := by
      by_cases h : l = m
      · rw [decide_eq_true h]; exact beq_iff_eq.2 h
      · rw [decide_eq_false h]; exact beq_eq_false_iff_ne.2 h
    rw [a1, a2, a3, Bool.true_and, Bool.true_and]
  · rw [if_neg (by rw [decide_eq_true_eq]; exact h0), decide_eq_false h0]; rfl
theorem refsame_f (s t : ByteArray) (u v l m : Int) (x y : Nat) (sh sh' un un' : Bool) (hx : x < 18446744073709551616) (hy : y < 18446744073709551616) (k : Nat) (hk : 2 ≤ k) : turncockref15_SameRule.f k s u l x sh un t v m y sh' un' = some (sameV s t u v l m x y sh sh' un un') := by
  unfold turncockref15_SameRule.f sameV turncockref1_Alike.f
  rw [reforder_f x y hx hy k hk]
  simp only [Option.bind_some]
  have e : (sgn (rank x - rank y) == 0) = decide (rank x = rank y) := by
    rw [show (sgn (rank x - rank y) == 0) = decide (rank x - rank y = 0) from by
      rcases sgn_cases (rank x - rank y) with ⟨h, e⟩ | ⟨h, e⟩ | ⟨h, e⟩ <;> rw [e]
      · rw [decide_eq_false (by omega)]; rfl
      · rw [decide_eq_true h]; rfl
      · rw [decide_eq_false (by omega)]; rfl]
    rw [decide_eq_decide]; omega
  rw [e]
  by_cases h1 : s.toList = t.toList
  · rw [if_pos h1, decide_eq_true h1]
    by_cases h2 : u = v
    · rw [if_pos h2, decide_eq_true h2]
      by_cases h3 : l = m
      · rw [if_pos h3, decide_eq_true h3]
        cases sh <;> cases sh' <;> cases un <;> cases un' <;> simp
      · rw [if_neg h3, decide_eq_false h3]; simp
    · rw [if_neg h2, decide_eq_false h2]; simp
  · rw [if_neg h1, decide_eq_false h1]; simp
theorem sameV_refl (s : ByteArray) (u l : Int) (x : Nat) (sh un : Bool) : sameV s s u u l l x x sh sh un un = true := by unfold sameV; simp
theorem sameV_comm (s t : ByteArray) (u v l m : Int) (x y : Nat) (sh sh' un un' : Bool) : sameV s t u v l m x y sh sh' un un' = sameV t s v u m l y x sh' sh un' un := by
  unfold sameV
  rw [show decide (rank x = rank y) = decide (rank y = rank x) from decide_eq_decide.2 eq_comm, show decide (s.toList = t.toList) = decide (t.toList = s.toList) from decide_eq_decide.2 eq_comm, show decide (u = v) = decide (v = u) from decide_eq_decide.2 eq_comm, show decide (l = m) = decide (m = l) from decide_eq_decide.2 eq_comm]
  cases sh <;> cases sh' <;> cases un <;> cases un' <;> rfl
theorem RuleSame (s : ByteArray) (u l : Int) (x : Nat) (sh un : Bool) (t : ByteArray) (v m : Int) (y : Nat) (sh' un' : Bool) (b c : Int) (_ : s.size ≤ maxLen) (_ : (Lit.int .i64 u).wf = true) (_ : (Lit.int .i64 l).wf = true) (_ : (Lit.float .f64 x).wf = true) (_ : t.size ≤ maxLen) (_ : (Lit.int .i64 v).wf = true) (_ : (Lit.int .i64 m).wf = true) (_ : (Lit.float .f64 y).wf = true) (wb : (Lit.int .u64 b).wf = true) (wc : (Lit.int .u64 c).wf = true) :
    ∃ k, turncocklaw16_RuleSame.f k s u l x sh un t v m y sh' un' b c = some true := by
  have hb := bits_of wb
  have hc := bits_of wc
  obtain ⟨K, hK⟩ := awake_ev
  refine ⟨K + 5, ?_⟩
  unfold turncocklaw16_RuleSame.f
  rw [rof_f, rof_f]
  simp only [Option.bind_some]
  rw [rsame_f _ _ _ _ _ _ _ _ _ _ _ _ hb hc, refsame_f _ _ _ _ _ _ _ _ _ _ _ _ hb hc _ (by omega), rsame_f _ _ _ _ _ _ _ _ _ _ _ _ hb hb, rsame_f _ _ _ _ _ _ _ _ _ _ _ _ hc hb, hK _ (by omega)]
  simp only [Option.bind_some]
  rw [sameV_refl, sameV_comm t s]
  simp

end Go.Proofs.Ytofebccpghkmgaa.Pure
