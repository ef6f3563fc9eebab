/- What the law TrieFits uses, thinned: printed by shake2.py. -/
import Derived.Test.YtipbigdpannlcaaTTrieFitsFlt
import Derived.Laws.FloatArith
set_option linter.unusedVariables false
set_option linter.unusedSimpArgs false
namespace Go.Proofs.Ytipbigdpannlcaa.Flt
open Ieee Go.Proofs.YtipbigdpannlcaaW.PrintWords
def mv (r : Nat) : Nat := if r < 4503599627370496 then r else (4503599627370496 + r % 4503599627370496) * 2 ^ (r / 4503599627370496 - 1)
def rung (w : Nat) : Nat := w % 9223372036854775808
def sg (w : Nat) : Bool := w / 9223372036854775808 % 2 == 1
def top : Nat := 9218868437227405312
def key (w : Nat) : Int := if sg w then -(rung w : Int) else (rung w : Int)
def IsNan (w : Nat) : Prop := top < rung w
instance (w : Nat) : Decidable (IsNan w) := inferInstanceAs (Decidable (_ < _))
theorem mv_zero : mv 0 = 0 := rfl
theorem mv_succ (r : Nat) : mv (r + 1) = mv r + 2 ^ (r / 4503599627370496 - 1) := by
  unfold mv
  by_cases h : r + 1 < 4503599627370496
  · rw [if_pos h, if_pos (by omega)]
    have : r / 4503599627370496 - 1 = 0 := by omega
    rw [this]
  · rw [if_neg h]
    by_cases h2 : r < 4503599627370496
    · have e : r = 4503599627370495 := by omega
      subst e
      rfl
    · rw [if_neg h2]
      by_cases h3 : r % 4503599627370496 + 1 < 4503599627370496
      · have e1 : (r + 1) % 4503599627370496 = r % 4503599627370496 + 1 := by omega
        have e2 : (r + 1) / 4503599627370496 = r / 4503599627370496 := by omega
        rw [e1, e2, ← Nat.add_assoc, Nat.add_mul, Nat.one_mul]
      · have e0 : r % 4503599627370496 = 4503599627370495 := by omega
        have e1 : (r + 1) % 4503599627370496 = 0 := by omega
        have e2 : (r + 1) / 4503599627370496 - 1 = (r / 4503599627370496 - 1) + 1 := by omega
        rw [e0, e1, e2, Nat.pow_succ]
        generalize 2 ^ (r / 4503599627370496 - 1) = p
        omega
theorem mv_lt_succ (r : Nat) : mv r < mv (r + 1) := by
  rw [mv_succ]
  have : 0 < 2 ^ (r / 4503599627370496 - 1) := Nat.two_pow_pos _
  omega
theorem mv_lt {a b : Nat} (h : a < b) : mv a < mv b := by
  induction b with
  | zero => omega
  | succ b ih =>
    by_cases e : a = b
    · subst e; exact mv_lt_succ _
    · exact Nat.lt_trans (ih (by omega)) (mv_lt_succ b)
theorem mv_le {a b : Nat} (h : a ≤ b) : mv a ≤ mv b := by
  by_cases e : a = b
  · subst e; exact Nat.le_refl _
  · exact Nat.le_of_lt (mv_lt (by omega))
theorem mv_le_iff {a b : Nat} : mv a ≤ mv b ↔ a ≤ b :=
  ⟨fun h => by false_or_by_contra; have := mv_lt (a := b) (b := a) (by omega); omega, mv_le⟩
theorem mv_inj {a b : Nat} (h : mv a = mv b) : a = b :=
  Nat.le_antisymm (mv_le_iff.1 (Nat.le_of_eq h)) (mv_le_iff.1 (Nat.le_of_eq h.symm))
structure Rnd (n d r : Nat) : Prop where
  hi : 2 * n ≤ (mv r + mv (r + 1)) * d
  hie : 2 * n = (mv r + mv (r + 1)) * d → r % 2 = 0
  lo : 0 < r → (mv (r - 1) + mv r) * d ≤ 2 * n
  loe : 0 < r → (mv (r - 1) + mv r) * d = 2 * n → r % 2 = 0
theorem Rnd.mono {n d r n' d' r' : Nat} (hd : 0 < d) (hd' : 0 < d') (h : Rnd n d r) (h' : Rnd n' d' r') (hle : n * d' ≤ n' * d) : r ≤ r' := by
  false_or_by_contra
  rename_i hlt
  have hr : 0 < r := by omega
  have h1 := h.lo hr
  have h2 := h'.hi
  have m1 : mv r' ≤ mv (r - 1) := mv_le (by omega)
  have m2 : mv (r' + 1) ≤ mv r := mv_le (by omega)
  -- (mv (r-1) + mv r) * d * d' ≤ 2 n d' ≤ 2 n' d ≤ (mv r' + mv (r'+1)) * d' * d
  have a1 : (mv (r - 1) + mv r) * d * d' ≤ 2 * n * d' := Nat.mul_le_mul_right _ h1
  have a2 : 2 * n * d' ≤ 2 * n' * d := by
    rw [Nat.mul_assoc, Nat.mul_assoc]; exact Nat.mul_le_mul_left _ hle
  have a3 : 2 * n' * d ≤ (mv r' + mv (r' + 1)) * d' * d := Nat.mul_le_mul_right _ h2
  have a4 : (mv r' + mv (r' + 1)) * d' * d = (mv r' + mv (r' + 1)) * d * d' := Nat.mul_right_comm _ _ _
  rw [a4] at a3
  have a5 : (mv r' + mv (r' + 1)) * d * d' ≤ (mv (r - 1) + mv r) * d * d' :=
    Nat.mul_le_mul_right _ (Nat.mul_le_mul_right _ (by omega))
  have dd : 0 < d * d' := Nat.mul_pos hd hd'
  have e1 : (mv (r - 1) + mv r) * d * d' = 2 * n * d' := by omega
  have e2 : 2 * n' * d = (mv r' + mv (r' + 1)) * d * d' := by omega
  have e3 : (mv r' + mv (r' + 1)) * d * d' = (mv (r - 1) + mv r) * d * d' := by omega
  have f1 := h.loe hr (Nat.eq_of_mul_eq_mul_right hd' e1)
  have f2 := h'.hie (Nat.eq_of_mul_eq_mul_right hd (e2.trans a4.symm))
  rw [Nat.mul_assoc, Nat.mul_assoc] at e3
  have f3 := Nat.eq_of_mul_eq_mul_right dd e3
  have f4 : mv (r' + 1) = mv r := by omega
  have := mv_inj f4
  omega
theorem Rnd.exact (r : Nat) (d : Nat) (hd : 0 < d) : Rnd (mv r * d) d r := by
  have h1 := mv_lt_succ r
  refine ⟨?_, ?_, ?_, ?_⟩
  · rw [← Nat.mul_assoc]; exact Nat.mul_le_mul_right _ (by omega)
  · intro e
    rw [← Nat.mul_assoc] at e
    have := Nat.eq_of_mul_eq_mul_right hd e
    omega
  · intro hr
    have h2 : mv (r - 1) < mv r := mv_lt (by omega)
    rw [← Nat.mul_assoc]; exact Nat.mul_le_mul_right _ (by omega)
  · intro hr e
    have h2 : mv (r - 1) < mv r := mv_lt (by omega)
    rw [← Nat.mul_assoc] at e
    have := Nat.eq_of_mul_eq_mul_right hd e
    omega
theorem Rnd.of_exact {n d r s : Nat} (hd : 0 < d) (h : Rnd n d r) (e : n = mv s * d) : r = s := by
  have h2 := Rnd.exact s d hd
  rw [← e] at h2
  exact Nat.le_antisymm (h.mono hd hd h2 (Nat.le_refl _)) (h2.mono hd hd h (Nat.le_refl _))
theorem cut_even (neg : Bool) (n drop : Nat) : 2 * n ≤ 2 * (Toward.even.cut neg n drop * 2 ^ drop) + 2 ^ drop ∧
    (2 * n = 2 * (Toward.even.cut neg n drop * 2 ^ drop) + 2 ^ drop → Toward.even.cut neg n drop % 2 = 0) ∧
    2 * (Toward.even.cut neg n drop * 2 ^ drop) ≤ 2 * n + 2 ^ drop ∧
    (2 * (Toward.even.cut neg n drop * 2 ^ drop) = 2 * n + 2 ^ drop → Toward.even.cut neg n drop % 2 = 0) := by
  unfold Toward.cut
  simp only [Nat.one_shiftLeft]
  by_cases hb : drop ≤ n.log2 + 2
  · rw [Nat.min_eq_left hb]
    have hg : 0 < 2 ^ drop := Nat.two_pow_pos _
    have hdm := Nat.div_add_mod n (2 ^ drop)
    have hml := Nat.mod_lt n hg
    generalize 2 ^ drop = g at *
    generalize n / g = q at *
    generalize n % g = t at *
    rw [Nat.mul_comm] at hdm
    have hq : (q + 1) * g = q * g + g := by rw [Nat.add_mul, Nat.one_mul]
    by_cases c1 : g < 2 * t
    · have : (decide (g < 2 * t) || g == 2 * t && q % 2 == 1) = true := by simp [c1]
      rw [this]
      show _ ≤ 2 * ((q + 1) * g) + g ∧ (_ = 2 * ((q + 1) * g) + g → (q + 1) % 2 = 0) ∧ 2 * ((q + 1) * g) ≤ _ ∧ (2 * ((q + 1) * g) = _ → (q + 1) % 2 = 0)
      rw [hq]
      generalize q * g = z at *
      omega
    · by_cases c2 : g = 2 * t
      · by_cases c3 : q % 2 = 1
        · have : (decide (g < 2 * t) || g == 2 * t && q % 2 == 1) = true := by simp [c2, c3]
          rw [this]
          show _ ≤ 2 * ((q + 1) * g) + g ∧ (_ = 2 * ((q + 1) * g) + g → (q + 1) % 2 = 0) ∧ 2 * ((q + 1) * g) ≤ _ ∧ (2 * ((q + 1) * g) = _ → (q + 1) % 2 = 0)
          rw [hq]
          generalize q * g = z at *
          omega
        · have : (decide (g < 2 * t) || g == 2 * t && q % 2 == 1) = false := by simp [c2, c3]
          rw [this]
          show _ ≤ 2 * (q * g) + g ∧ (_ = 2 * (q * g) + g → q % 2 = 0) ∧ 2 * (q * g) ≤ _ ∧ (2 * (q * g) = _ → q % 2 = 0)
          generalize q * g = z at *
          omega
      · have : (decide (g < 2 * t) || g == 2 * t && q % 2 == 1) = false := by simp [c2]; omega
        rw [this]
        show _ ≤ 2 * (q * g) + g ∧ (_ = 2 * (q * g) + g → q % 2 = 0) ∧ 2 * (q * g) ≤ _ ∧ (2 * (q * g) = _ → q % 2 = 0)
        generalize q * g = z at *
        omega
  · rw [Nat.min_eq_right (by omega)]
    have h1 : n < 2 ^ (n.log2 + 1) := Nat.lt_log2_self
    have h2 : 2 ^ (n.log2 + 2) = 2 * 2 ^ (n.log2 + 1) := by rw [Nat.pow_succ (m := n.log2 + 1), Nat.mul_comm]
    have h3 : 2 ^ (n.log2 + 2) ≤ 2 ^ drop := Nat.pow_le_pow_right (by omega) (by omega)
    rw [Nat.div_eq_of_lt (by omega), Nat.mod_eq_of_lt (by omega)]
    have : (decide (2 ^ (n.log2 + 2) < 2 * n) || 2 ^ (n.log2 + 2) == 2 * n && 0 % 2 == 1) = false := by simp; omega
    rw [this]
    simp
    omega
def ups (p : Int) : Nat := (p + 1074).toNat
def dns (p : Int) : Nat := (-(p + 1074)).toNat
def nr (m : Nat) (p : Int) : Nat :=
  if m = 0 then 0 else
  (max (p + m.log2 - 52) (-1074) + 1074).toNat * 4503599627370496 + Toward.even.cut false (m <<< (p - max (p + m.log2 - 52) (-1074)).toNat) (max (p + m.log2 - 52) (-1074) - p).toNat
theorem nearest_eq (neg : Bool) (m : Nat) (p : Int) : double.nearest neg m p = double.word neg (min (nr m p) top) := by
  unfold Format.nearest nr
  by_cases h : m = 0
  · rw [if_pos h, if_pos h]; rfl
  · rw [if_neg h, if_neg h]
    have e1 : double.leastPlace = -1074 := by decide
    have e2 : double.binade = 4503599627370496 := by decide
    have e3 : double.infRung = top := by decide
    have e4 : double.fractionBits = 52 := by decide
    simp only [e1, e2, e3, e4]
    have e5 : ∀ n d, Toward.even.cut neg n d = Toward.even.cut false n d := fun n d => rfl
    rw [e5]
    rfl
theorem Rnd.congr {n d n' d' r : Nat} (hd : 0 < d) (h : Rnd n d r) (e : n * d' = n' * d) (hd' : 0 < d') : Rnd n' d' r := by
  have key : ∀ M : Nat, (2 * n ≤ M * d ↔ 2 * n' ≤ M * d') ∧ (M * d ≤ 2 * n ↔ M * d' ≤ 2 * n') := by
    intro M
    have e2 : 2 * n * d' = 2 * n' * d := by rw [Nat.mul_assoc, Nat.mul_assoc, e]
    have e3 : M * d * d' = M * d' * d := Nat.mul_right_comm _ _ _
    constructor
    · constructor
      · intro h1
        refine Nat.le_of_mul_le_mul_right (c := d) ?_ hd
        rw [← e2, ← e3]; exact Nat.mul_le_mul_right _ h1
      · intro h1
        refine Nat.le_of_mul_le_mul_right (c := d') ?_ hd'
        rw [e2, e3]; exact Nat.mul_le_mul_right _ h1
    · constructor
      · intro h1
        refine Nat.le_of_mul_le_mul_right (c := d) ?_ hd
        rw [← e2, ← e3]; exact Nat.mul_le_mul_right _ h1
      · intro h1
        refine Nat.le_of_mul_le_mul_right (c := d') ?_ hd'
        rw [e2, e3]; exact Nat.mul_le_mul_right _ h1
  refine ⟨(key _).1.1 h.hi, ?_, fun hr => (key _).2.1 (h.lo hr), ?_⟩
  · intro e1
    have := (key (mv r + mv (r + 1))).2.2 (Nat.le_of_eq e1.symm)
    exact h.hie (Nat.le_antisymm h.hi this)
  · intro hr e1
    have := (key (mv (r - 1) + mv r)).1.2 (Nat.le_of_eq e1.symm)
    exact h.loe hr (Nat.le_antisymm (h.lo hr) this)
theorem mv_scale (e K : Nat) (h : (e = 0 ∧ K ≤ 9007199254740992) ∨ (4503599627370496 ≤ K ∧ K ≤ 9007199254740992)) :
    mv (e * 4503599627370496 + K) = K * 2 ^ e := by
  unfold mv
  by_cases h1 : e * 4503599627370496 + K < 4503599627370496
  · rw [if_pos h1]
    have : e = 0 := by omega
    subst this
    simp
  · rw [if_neg h1]
    by_cases h2 : K = 9007199254740992
    · subst h2
      have e1 : (e * 4503599627370496 + 9007199254740992) % 4503599627370496 = 0 := by omega
      have e2 : (e * 4503599627370496 + 9007199254740992) / 4503599627370496 - 1 = e + 1 := by omega
      rw [e1, e2, Nat.pow_succ]
      generalize 2 ^ e = p
      omega
    · by_cases h3 : K < 4503599627370496
      · exact absurd h1 (by omega)
      · have e1 : (e * 4503599627370496 + K) % 4503599627370496 = K - 4503599627370496 := by omega
        have e2 : (e * 4503599627370496 + K) / 4503599627370496 - 1 = e := by omega
        rw [e1, e2, show 4503599627370496 + (K - 4503599627370496) = K by omega]
theorem nr_rnd (m : Nat) (p : Int) : Rnd (m * 2 ^ ups p) (2 ^ dns p) (nr m p) := by
  unfold nr
  by_cases h0 : m = 0
  · rw [if_pos h0]; subst h0
    have := Rnd.exact 0 (2 ^ dns p) (Nat.two_pow_pos _)
    rw [mv_zero, Nat.zero_mul] at this
    rw [Nat.zero_mul]; exact this
  · rw [if_neg h0]
    have hL1 : 2 ^ m.log2 ≤ m := Nat.log2_self_le h0
    have hL2 : m < 2 ^ (m.log2 + 1) := Nat.lt_log2_self
    generalize m.log2 = L at *
    generalize hlast : max (p + (L : Int) - 52) (-1074) = last
    rw [Nat.shiftLeft_eq]
    obtain ⟨a, ha⟩ : ∃ a, a = (p - last).toNat := ⟨_, rfl⟩
    obtain ⟨b, hb⟩ : ∃ b, b = (last - p).toNat := ⟨_, rfl⟩
    obtain ⟨e, he⟩ : ∃ e, e = (last + 1074).toNat := ⟨_, rfl⟩
    rw [← ha, ← hb, ← he]
    have hc := cut_even false (m * 2 ^ a) b
    generalize Toward.even.cut false (m * 2 ^ a) b = K at *
    have hid : m * 2 ^ a * (2 ^ e * 2 ^ dns p) = m * 2 ^ ups p * 2 ^ b := by
      rw [Nat.mul_assoc, Nat.mul_assoc, ← Nat.pow_add, ← Nat.pow_add, ← Nat.pow_add]
      congr 2
      unfold ups dns; omega
    have hup : m * 2 ^ a < 9007199254740992 * 2 ^ b := by
      have h1 : m * 2 ^ a < 2 ^ (L + 1) * 2 ^ a := Nat.mul_lt_mul_of_pos_right hL2 (Nat.two_pow_pos _)
      rw [← Nat.pow_add] at h1
      have h2 : 2 ^ (L + 1 + a) ≤ 2 ^ (53 + b) := Nat.pow_le_pow_right (by omega) (by omega)
      rw [Nat.pow_add 2 53 b] at h2
      have : (2 : Nat) ^ 53 = 9007199254740992 := by decide
      rw [this] at h2
      omega
    have hlo : 0 < e → 4503599627370496 * 2 ^ b ≤ m * 2 ^ a := by
      intro hpos
      have h1 : 2 ^ L * 2 ^ a ≤ m * 2 ^ a := Nat.mul_le_mul_right _ hL1
      rw [← Nat.pow_add] at h1
      have h2 : 2 ^ (52 + b) ≤ 2 ^ (L + a) := Nat.pow_le_pow_right (by omega) (by omega)
      rw [Nat.pow_add 2 52 b] at h2
      have : (2 : Nat) ^ 52 = 4503599627370496 := by decide
      rw [this] at h2
      omega
    have hg : 0 < 2 ^ b := Nat.two_pow_pos _
    have hD : 0 < 2 ^ dns p := Nat.two_pow_pos _
    have hE : 0 < 2 ^ e := Nat.two_pow_pos _
    have hsc : ∀ K', e * 4503599627370496 + K' = e * 4503599627370496 + K' := fun _ => rfl
    generalize m * 2 ^ a = n at *
    generalize m * 2 ^ ups p = X at *
    generalize 2 ^ dns p = D at *
    generalize hgg : 2 ^ b = g at *
    obtain ⟨c1, c2, c3, c4⟩ := hc
    have hK1 : K ≤ 9007199254740992 := by
      have : 2 * (K * g) < 2 * (9007199254740992 * g) + g := by omega
      have h2 : 2 * K * g < (2 * 9007199254740992 + 1) * g := by
        rw [Nat.add_mul, Nat.one_mul, Nat.mul_assoc, Nat.mul_assoc]; exact this
      have := Nat.lt_of_mul_lt_mul_right h2
      omega
    have hK2 : 0 < e → 4503599627370496 ≤ K := by
      intro hpos
      have h1 := hlo hpos
      have h2 : (2 * 4503599627370496) * g ≤ (2 * K + 1) * g := by
        rw [Nat.add_mul, Nat.one_mul, Nat.mul_assoc, Nat.mul_assoc]; omega
      have := Nat.le_of_mul_le_mul_right h2 hg
      omega
    have hform : (e = 0 ∧ K ≤ 9007199254740992) ∨ (4503599627370496 ≤ K ∧ K ≤ 9007199254740992) := by
      rcases Nat.eq_zero_or_pos e with h | h
      · exact .inl ⟨h, hK1⟩
      · exact .inr ⟨hK2 h, hK1⟩
    have hmv := mv_scale e K hform
    have hpar : (e * 4503599627370496 + K) % 2 = K % 2 := by omega
    have hnext : K * 2 ^ e + 2 ^ e ≤ mv (e * 4503599627370496 + K + 1) := by
      rw [mv_succ, hmv]
      have : 2 ^ e ≤ 2 ^ ((e * 4503599627370496 + K) / 4503599627370496 - 1) := Nat.pow_le_pow_right (by omega) (by omega)
      omega
    -- the sides, by g
    have hup2 : 2 * X * g ≤ (2 * K + 1) * 2 ^ e * D * g ∧ (2 * X * g = (2 * K + 1) * 2 ^ e * D * g → K % 2 = 0) := by
      have h1 : 2 * X * g = 2 * n * (2 ^ e * D) := by rw [Nat.mul_assoc, ← hid, Nat.mul_assoc]
      have h2 : (2 * K + 1) * 2 ^ e * D * g = (2 * (K * g) + g) * (2 ^ e * D) := by
        have : 2 * (K * g) + g = (2 * K + 1) * g := by rw [Nat.add_mul, Nat.one_mul, Nat.mul_assoc]
        rw [this, Nat.mul_right_comm _ g, ← Nat.mul_assoc]
      rw [h1, h2]
      have hED : 0 < 2 ^ e * D := Nat.mul_pos hE hD
      exact ⟨Nat.mul_le_mul_right _ c1, fun h => c2 (Nat.eq_of_mul_eq_mul_right hED h)⟩
    have hlo2 : 2 * K * 2 ^ e * D * g ≤ 2 * X * g + 2 ^ e * D * g ∧ (2 * K * 2 ^ e * D * g = 2 * X * g + 2 ^ e * D * g → K % 2 = 0) := by
      have h1 : 2 * X * g + 2 ^ e * D * g = (2 * n + g) * (2 ^ e * D) := by
        rw [Nat.add_mul, Nat.mul_assoc 2 X g, ← hid, Nat.mul_assoc 2 n, Nat.mul_comm g]
      have h2 : 2 * K * 2 ^ e * D * g = 2 * (K * g) * (2 ^ e * D) := by
        rw [← Nat.mul_assoc 2 K g, Nat.mul_right_comm _ g, ← Nat.mul_assoc]
      rw [h1, h2]
      have hED : 0 < 2 ^ e * D := Nat.mul_pos hE hD
      exact ⟨Nat.mul_le_mul_right _ c3, fun h => c4 (Nat.eq_of_mul_eq_mul_right hED h)⟩
    have hmid : (2 * K + 1) * 2 ^ e ≤ mv (e * 4503599627370496 + K) + mv (e * 4503599627370496 + K + 1) := by
      rw [hmv, Nat.add_mul, Nat.one_mul, Nat.mul_assoc]; omega
    refine ⟨?_, ?_, ?_, ?_⟩
    · refine Nat.le_of_mul_le_mul_right (c := g) (Nat.le_trans hup2.1 ?_) hg
      exact Nat.mul_le_mul_right _ (Nat.mul_le_mul_right _ hmid)
    · intro h
      rw [hpar]
      refine hup2.2 (Nat.le_antisymm hup2.1 ?_)
      rw [h]
      exact Nat.mul_le_mul_right _ (Nat.mul_le_mul_right _ hmid)
    · intro hr
      by_cases hc : e = 0 ∨ 4503599627370496 < K
      · have hpm : mv (e * 4503599627370496 + K - 1) + 2 ^ e = K * 2 ^ e := by
          have h1 := mv_succ (e * 4503599627370496 + K - 1)
          rw [show e * 4503599627370496 + K - 1 + 1 = e * 4503599627370496 + K by omega, hmv] at h1
          have h2 : (e * 4503599627370496 + K - 1) / 4503599627370496 - 1 = e := by omega
          rw [h2] at h1
          omega
        refine Nat.le_of_mul_le_mul_right (c := g) ?_ hg
        have h3 : (mv (e * 4503599627370496 + K - 1) + mv (e * 4503599627370496 + K)) * D * g + 2 ^ e * D * g = 2 * K * 2 ^ e * D * g := by
          rw [← Nat.add_mul, ← Nat.add_mul, hmv, Nat.mul_assoc 2 K]
          congr 2
          omega
        have := hlo2.1
        omega
      · have hK : K = 4503599627370496 := by
          have := hK2 (by omega)
          omega
        have hle : mv (e * 4503599627370496 + K - 1) ≤ mv (e * 4503599627370496 + K) := mv_le (by omega)
        have h1 := hlo (by omega)
        refine Nat.le_of_mul_le_mul_right (c := g) ?_ hg
        have h2 : 2 * X * g = 2 * n * (2 ^ e * D) := by rw [Nat.mul_assoc, ← hid, Nat.mul_assoc]
        rw [h2]
        have h3 : (mv (e * 4503599627370496 + K - 1) + mv (e * 4503599627370496 + K)) * D * g ≤ (2 * (4503599627370496 * 2 ^ e)) * D * g :=
          Nat.mul_le_mul_right _ (Nat.mul_le_mul_right _ (by have hm2 : 4503599627370496 * 2 ^ e = K * 2 ^ e := (by rw [hK]); omega))
        refine Nat.le_trans h3 ?_
        have h4 : 2 * (4503599627370496 * 2 ^ e) * D * g = 2 * (4503599627370496 * g) * (2 ^ e * D) := by
          rw [← Nat.mul_assoc 2, ← Nat.mul_assoc 2, Nat.mul_right_comm _ g, ← Nat.mul_assoc]
        rw [h4]
        exact Nat.mul_le_mul_right _ (by omega)
    · intro hr h
      rw [hpar]
      by_cases hc : e = 0 ∨ 4503599627370496 < K
      · have hpm : mv (e * 4503599627370496 + K - 1) + 2 ^ e = K * 2 ^ e := by
          have h1 := mv_succ (e * 4503599627370496 + K - 1)
          rw [show e * 4503599627370496 + K - 1 + 1 = e * 4503599627370496 + K by omega, hmv] at h1
          have h2 : (e * 4503599627370496 + K - 1) / 4503599627370496 - 1 = e := by omega
          rw [h2] at h1
          omega
        have h3 : (mv (e * 4503599627370496 + K - 1) + mv (e * 4503599627370496 + K)) * D * g + 2 ^ e * D * g = 2 * K * 2 ^ e * D * g := by
          rw [← Nat.add_mul, ← Nat.add_mul, hmv, Nat.mul_assoc 2 K]
          congr 2
          omega
        rw [h] at h3
        exact hlo2.2 (by omega)
      · have hK : K = 4503599627370496 := by
          have := hK2 (by omega)
          omega
        omega
theorem word_rung (s : Bool) (r : Nat) (h : r < 9223372036854775808) : rung (double.word s r) = r := by
  have e : double.signWeight = 9223372036854775808 := by decide
  unfold Format.word rung
  rw [e]
  cases s
  · simp; omega
  · simp; omega
theorem word_sg (s : Bool) (r : Nat) (h : r < 9223372036854775808) : sg (double.word s r) = s := by
  have e : double.signWeight = 9223372036854775808 := by decide
  unfold Format.word sg
  rw [e]
  cases s
  · have : r / 9223372036854775808 = 0 := by omega
    simp [this]
  · have : (9223372036854775808 + r) / 9223372036854775808 = 1 := by omega
    simp [this]
theorem word_lt (s : Bool) (r : Nat) (h : r < 9223372036854775808) : double.word s r < 18446744073709551616 := by
  have e : double.signWeight = 9223372036854775808 := by decide
  unfold Format.word
  rw [e]
  split <;> omega
theorem word_of (w : Nat) (h : w < 18446744073709551616) : double.word (sg w) (rung w) = w := by
  have e : double.signWeight = 9223372036854775808 := by decide
  unfold Format.word sg rung
  rw [e]
  by_cases h1 : w < 9223372036854775808
  · have : w / 9223372036854775808 = 0 := by omega
    simp [this]; omega
  · have : w / 9223372036854775808 = 1 := by omega
    simp [this]; omega
theorem read_fin (w : Nat) (h : rung w < top) : ∃ (m : Nat) (p : Int), double.read w = .number (sg w) m p ∧ -1074 ≤ p ∧ m * 2 ^ ups p = mv (rung w) ∧ p = -1074 + (rung w / 4503599627370496 - 1 : Nat) := by
  have e1 : double.signWeight = 9223372036854775808 := by decide
  have e2 : double.binade = 4503599627370496 := by decide
  have e3 : double.infRung = top := by decide
  have e4 : double.leastPlace = -1074 := by decide
  unfold Format.read
  simp only [e1, e2, e3, e4]
  change ∃ (m : Nat) (p : Int), (if rung w < 4503599627370496 then Datum.number (sg w) (rung w) (-1074) else if rung w < top then Datum.number (sg w) (4503599627370496 + rung w % 4503599627370496) (-1074 + (rung w / 4503599627370496 - 1 : Nat)) else _) = _ ∧ _
  by_cases h1 : rung w < 4503599627370496
  · rw [if_pos h1]
    refine ⟨rung w, -1074, rfl, by omega, ?_, by omega⟩
    unfold mv ups; rw [if_pos h1]; simp
  · rw [if_neg h1, if_pos h]
    refine ⟨_, _, rfl, by omega, ?_, rfl⟩
    unfold mv ups; rw [if_neg h1]
    congr 2
    omega
theorem read_inf (w : Nat) (h : rung w = top) : double.read w = .infinity (sg w) := by
  have e1 : double.signWeight = 9223372036854775808 := by decide
  have e2 : double.binade = 4503599627370496 := by decide
  have e3 : double.infRung = top := by decide
  have e4 : double.leastPlace = -1074 := by decide
  unfold Format.read
  simp only [e1, e2, e3, e4]
  change (if rung w < 4503599627370496 then _ else if rung w < top then _ else if rung w = top then Datum.infinity (sg w) else _) = _
  rw [if_neg (by rw [h]; decide), if_neg (by omega), if_pos h]
theorem read_nan (w : Nat) (h : top < rung w) : double.read w = .nan (sg w) (rung w - top) := by
  have e1 : double.signWeight = 9223372036854775808 := by decide
  have e2 : double.binade = 4503599627370496 := by decide
  have e3 : double.infRung = top := by decide
  have e4 : double.leastPlace = -1074 := by decide
  unfold Format.read
  simp only [e1, e2, e3, e4]
  change (if rung w < 4503599627370496 then _ else if rung w < top then _ else if rung w = top then _ else Datum.nan (sg w) (rung w - top)) = _
  have : top = 9218868437227405312 := rfl
  rw [if_neg (by omega), if_neg (by omega), if_neg (by omega)]
theorem cmp_congr {a b c d : Int} (h1 : a < b ↔ c < d) (h2 : a = b ↔ c = d) : compare a b = compare c d := by
  show compareOfLessAndEq a b = compareOfLessAndEq c d
  unfold compareOfLessAndEq
  by_cases e1 : a < b
  · rw [if_pos e1, if_pos (h1.1 e1)]
  · rw [if_neg e1, if_neg (fun h => e1 (h1.2 h))]
    by_cases e2 : a = b
    · rw [if_pos e2, if_pos (h2.1 e2)]
    · rw [if_neg e2, if_neg (fun h => e2 (h2.2 h))]
def K74 : Nat := 1074
def U : Nat := 2 ^ K74
theorem U_pos : 0 < U := Nat.two_pow_pos _
def fv (w : Nat) : Int := if sg w then -(mv (rung w) : Int) else (mv (rung w) : Int)
theorem fv_key_lt (x y : Nat) : fv x < fv y ↔ key x < key y := by
  unfold fv key
  have a1 : ∀ a b : Nat, mv a < mv b ↔ a < b := fun a b => by
    constructor
    · intro h; false_or_by_contra; have := mv_le (a := b) (b := a) (by omega); omega
    · exact mv_lt
  have z : ∀ a : Nat, 0 < mv a ↔ 0 < a := fun a => by have := a1 0 a; rwa [mv_zero] at this
  have b1 := a1 (rung x) (rung y)
  have b2 := a1 (rung y) (rung x)
  have z1 := z (rung x)
  have z2 := z (rung y)
  cases sg x <;> cases sg y <;> simp <;> omega
theorem fv_key_eq (x y : Nat) : fv x = fv y ↔ key x = key y := by
  have h1 := fv_key_lt x y
  have h2 := fv_key_lt y x
  omega
theorem order_fin (x y : Nat) (hx : rung x < top) (hy : rung y < top) : double.order x y = some (compare (fv x) (fv y)) := by
  obtain ⟨m, i, e1, hi, em, ei⟩ := read_fin x hx
  obtain ⟨n, j, e2, hj, en, ej⟩ := read_fin y hy
  unfold Format.order
  rw [e1, e2]
  unfold Datum.order
  dsimp only
  congr 1
  have hb1 : min i j ≤ i := Int.min_le_left _ _
  have hb2 : min i j ≤ j := Int.min_le_right _ _
  have hb3 : -1074 ≤ min i j := by omega
  generalize min i j = b at *
  have k1 : (m <<< (i - b).toNat) * 2 ^ (b + 1074).toNat = mv (rung x) := by
    rw [← em, Nat.shiftLeft_eq, Nat.mul_assoc, ← Nat.pow_add]; congr 2; unfold ups; omega
  have k2 : (n <<< (j - b).toNat) * 2 ^ (b + 1074).toNat = mv (rung y) := by
    rw [← en, Nat.shiftLeft_eq, Nat.mul_assoc, ← Nat.pow_add]; congr 2; unfold ups; omega
  unfold signed fv
  rw [← k1, ← k2]
  have hp : 0 < 2 ^ (b + 1074).toNat := Nat.two_pow_pos _
  generalize 2 ^ (b + 1074).toNat = P at *
  generalize m <<< (i - b).toNat = u at *
  generalize n <<< (j - b).toNat = v at *
  have hP : (0 : Int) < P := by omega
  have q1 : ∀ a c : Int, (a < c ↔ a * P < c * P) := fun a c => ⟨fun h => Int.mul_lt_mul_of_pos_right h hP, fun h => Int.lt_of_mul_lt_mul_right h (by omega)⟩
  have q2 : ∀ a c : Int, (a = c ↔ a * P = c * P) := fun a c => by
    have h1 := q1 a c
    have h2 := q1 c a
    omega
  refine cmp_congr ?_ ?_
  · rw [q1]
    cases sg x <;> cases sg y <;> simp [Int.neg_mul]
  · rw [q2]
    cases sg x <;> cases sg y <;> simp [Int.neg_mul]
theorem key_fin (w : Nat) (h : rung w < top) : -(top : Int) < key w ∧ key w < top := by
  unfold key; cases sg w <;> simp <;> omega
theorem order_key (x y : Nat) (hx : rung x ≤ top) (hy : rung y ≤ top) : double.order x y = some (compare (key x) (key y)) := by
  by_cases h1 : rung x < top
  · by_cases h2 : rung y < top
    · rw [order_fin x y h1 h2]; congr 1; exact cmp_congr (fv_key_lt x y) (fv_key_eq x y)
    · have h2' : rung y = top := by omega
      obtain ⟨m, i, e1, hi, em, ei⟩ := read_fin x h1
      obtain ⟨k1, k2⟩ := key_fin x h1
      unfold Format.order
      rw [e1, read_inf y h2']
      have ky : key y = if sg y then -(top : Int) else top := by unfold key; rw [h2']
      rw [ky]
      show some (if sg y = true then Ordering.gt else Ordering.lt) = _
      cases sg y
      · simp; show _ = compareOfLessAndEq _ _; unfold compareOfLessAndEq; rw [if_pos k2]
      · simp; show _ = compareOfLessAndEq _ _; unfold compareOfLessAndEq; rw [if_neg (by omega), if_neg (by omega)]
  · have h1' : rung x = top := by omega
    have kx : key x = if sg x then -(top : Int) else top := by unfold key; rw [h1']
    by_cases h2 : rung y < top
    · obtain ⟨m, i, e1, hi, em, ei⟩ := read_fin y h2
      obtain ⟨k1, k2⟩ := key_fin y h2
      unfold Format.order
      rw [e1, read_inf x h1', kx]
      show some (if sg x = true then Ordering.lt else Ordering.gt) = _
      cases sg x
      · simp; show _ = compareOfLessAndEq _ _; unfold compareOfLessAndEq; rw [if_neg (by omega), if_neg (by omega)]
      · simp; show _ = compareOfLessAndEq _ _; unfold compareOfLessAndEq; rw [if_pos (by omega)]
    · have h2' : rung y = top := by omega
      have ky : key y = if sg y then -(top : Int) else top := by unfold key; rw [h2']
      unfold Format.order
      rw [read_inf x h1', read_inf y h2', kx, ky]
      cases sg x <;> cases sg y <;> decide
theorem order_nan (x y : Nat) (h : top < rung x ∨ top < rung y) : double.order x y = none := by
  unfold Format.order
  rcases h with h | h
  · rw [read_nan x h]; rfl
  · rw [read_nan y h]
    cases double.read x <;> rfl
theorem mul_fin (x y : Nat) (hx : rung x < top) (hy : rung y < top) : ∃ r, double.mul x y = some (double.word (sg x ^^ sg y) (min r top)) ∧ Rnd (mv (rung x) * mv (rung y)) U r := by
  obtain ⟨m, i, e1, hi, em, ei⟩ := read_fin x hx
  obtain ⟨n, j, e2, hj, en, ej⟩ := read_fin y hy
  refine ⟨nr (m * n) (i + j), ?_, ?_⟩
  · unfold Format.mul
    rw [e1, e2]
    show some (double.nearest (sg x ^^ sg y) (m * n) (i + j)) = _
    rw [nearest_eq]
  · refine (nr_rnd (m * n) (i + j)).congr (Nat.two_pow_pos _) ?_ (Nat.two_pow_pos _)
    rw [← em, ← en]
    have : m * 2 ^ ups i * (n * 2 ^ ups j) = m * n * (2 ^ ups i * 2 ^ ups j) := by
      rw [Nat.mul_assoc, Nat.mul_assoc, Nat.mul_left_comm (2 ^ ups i)]
    rw [this]
    unfold U
    rw [Nat.mul_assoc (m * n), Nat.mul_assoc (m * n), ← Nat.pow_add, ← Nat.pow_add, ← Nat.pow_add]
    congr 2
    unfold ups dns K74; omega
theorem pow53 : (2 : Nat) ^ 53 = 9007199254740992 := by decide
theorem pow52 : (2 : Nat) ^ 52 = 4503599627370496 := by decide
theorem big64 : ∃ E, mv (E + 4503599627370496) = 18446744073709551616 * U ∧ E = 4890909195324358656 := by
  obtain ⟨E, hE⟩ : ∃ E, E = K74 + 12 := ⟨_, rfl⟩
  have hE2 : E = 1086 := by rw [hE]; rfl
  refine ⟨E * 4503599627370496, ?_, by rw [hE2]⟩
  rw [mv_scale E 4503599627370496 (.inr ⟨by omega, by omega⟩), hE]
  unfold U
  rw [Nat.pow_add, Nat.mul_comm (2 ^ K74), ← Nat.mul_assoc]
theorem rep_int (n : Nat) (h : n ≤ 9007199254740992) : ∃ s, mv s = n * U := by
  by_cases h0 : n = 0
  · subst h0; exact ⟨0, by rw [mv_zero, Nat.zero_mul]⟩
  by_cases h1 : n = 9007199254740992
  · subst h1; exact ⟨K74 * 4503599627370496 + 9007199254740992, by unfold U; exact mv_scale K74 _ (.inr ⟨by omega, by omega⟩)⟩
  have hL1 : 2 ^ n.log2 ≤ n := Nat.log2_self_le h0
  have hL2 : n < 2 ^ (n.log2 + 1) := Nat.lt_log2_self
  have hL : n.log2 < 53 := by
    rw [Nat.log2_lt h0, pow53]; omega
  generalize n.log2 = L at *
  refine ⟨(K74 - (52 - L)) * 4503599627370496 + n * 2 ^ (52 - L), ?_⟩
  rw [mv_scale]
  · unfold U
    rw [Nat.mul_assoc, ← Nat.pow_add]
    congr 2
    unfold K74; omega
  · right
    constructor
    · have : 2 ^ L * 2 ^ (52 - L) ≤ n * 2 ^ (52 - L) := Nat.mul_le_mul_right _ hL1
      rw [← Nat.pow_add, show L + (52 - L) = 52 by omega, pow52] at this
      exact this
    · have : n * 2 ^ (52 - L) < 2 ^ (L + 1) * 2 ^ (52 - L) := Nat.mul_lt_mul_of_pos_right hL2 (Nat.two_pow_pos _)
      rw [← Nat.pow_add, show L + 1 + (52 - L) = 53 by omega, pow53] at this
      omega
theorem word_false (r : Nat) : double.word false r = r := rfl
theorem rung_of (r : Nat) (h : r < 9223372036854775808) : rung r = r := Nat.mod_eq_of_lt h
theorem sg_of (r : Nat) (h : r < 9223372036854775808) : sg r = false := by
  unfold sg
  have : r / 9223372036854775808 = 0 := by omega
  rw [this]; rfl
theorem top_lt : top < 9223372036854775808 := by decide
theorem fofi_word (n : Nat) : fofi (n : Int) = min (nr n 0) top := by
  show double.nearest (decide ((n : Int) < 0)) (n : Int).natAbs 0 = _
  rw [nearest_eq, decide_eq_false (by omega), word_false]
  rfl
theorem fofi_rnd (n : Nat) : Rnd (n * U) 1 (nr n 0) := by
  have h := nr_rnd n 0
  have e1 : ups 0 = K74 := rfl
  have e2 : 2 ^ dns 0 = 1 := rfl
  rw [e2] at h
  unfold U
  rw [← e1]
  exact h
theorem fofi_nat (n : Nat) (h : n ≤ 18446744073709551616) : fofi (n : Int) = nr n 0 ∧ nr n 0 < top := by
  have h1 := fofi_rnd n
  obtain ⟨E, e1, e2⟩ := big64
  have hm := h1.mono (d' := 1) (by omega) (by omega) (Rnd.exact (E + 4503599627370496) 1 (by omega)) (by
    rw [e1]
    generalize U = u
    simp only [Nat.mul_one]
    exact Nat.mul_le_mul_right u h)
  have ht : top = 9218868437227405312 := rfl
  rw [fofi_word]
  omega
theorem fofi_exact (n : Nat) (h : n ≤ 9007199254740992) : fofi (n : Int) < top ∧ mv (fofi (n : Int)) = n * U := by
  obtain ⟨e, h1⟩ := fofi_nat n (by omega)
  obtain ⟨s, hs⟩ := rep_int n h
  rw [e]
  refine ⟨h1, ?_⟩
  have := (fofi_rnd n).of_exact (by omega) (s := s) (by rw [hs, Nat.mul_one])
  rw [this, hs]
theorem cut_floor (way : Toward) (h : way = .zero ∨ way = .down) (n drop : Nat) : way.cut false n drop = n / 2 ^ drop := by
  unfold Toward.cut
  simp only [Nat.one_shiftLeft]
  have hb : n / 2 ^ min drop (n.log2 + 2) = n / 2 ^ drop := by
    by_cases hb : drop ≤ n.log2 + 2
    · rw [Nat.min_eq_left hb]
    · rw [Nat.min_eq_right (by omega)]
      have h1 : n < 2 ^ (n.log2 + 1) := Nat.lt_log2_self
      have h2 : 2 ^ (n.log2 + 1) ≤ 2 ^ (n.log2 + 2) := Nat.pow_le_pow_right (by omega) (by omega)
      have h3 : 2 ^ (n.log2 + 2) ≤ 2 ^ drop := Nat.pow_le_pow_right (by omega) (by omega)
      rw [Nat.div_eq_of_lt (by omega), Nat.div_eq_of_lt (by omega)]
  rcases h with rfl | rfl <;> simp [hb]
theorem whole (m : Nat) (i : Int) (hi : -1074 ≤ i) : (m <<< i.toNat) / 2 ^ (-i).toNat = m * 2 ^ ups i / U := by
  rw [Nat.shiftLeft_eq]
  unfold U
  by_cases h : 0 ≤ i
  · have e1 : (-i).toNat = 0 := by omega
    have e2 : ups i = i.toNat + K74 := by unfold ups K74; omega
    rw [e1, e2, Nat.pow_add, ← Nat.mul_assoc, Nat.mul_div_cancel _ (Nat.two_pow_pos _)]
    simp
  · have e1 : i.toNat = 0 := by omega
    have e2 : K74 = (-i).toNat + ups i := by unfold ups K74; omega
    rw [e1, e2, Nat.pow_add, Nat.mul_div_mul_right _ _ (Nat.two_pow_pos _)]
    simp
theorem int_of (way : Toward) (hw : way = .zero ∨ way = .down) (r : Nat) (hr : r < top) : (double.read r).integral way = .number false (mv r / U) 0 := by
  have ht := top_lt
  obtain ⟨m, i, e, hi, em, _⟩ := read_fin r (by rw [rung_of r (by omega)]; exact hr)
  rw [sg_of r (by omega)] at e
  rw [rung_of r (by omega)] at em
  rw [e]
  show Datum.number false (way.cut false (m <<< i.toNat) (-i).toNat) 0 = _
  rw [cut_floor way hw, whole m i hi, em]
theorem f2i_pos (r : Nat) (hr : r < top) (hb : mv r / U < 9223372036854775808) : f2iOk r = true ∧ f2i r = ((mv r / U : Nat) : Int) := by
  have key : floatToIntVal .f64 r .i64 = some ((mv r / U : Nat) : Int) := by
    unfold floatToIntVal
    have e : (FloatKind.f64.decode r).toInt .zero = some ((mv r / U : Nat) : Int) := by
      show (match (double.read r).integral .zero with | .number s m _ => some (signed s m 0) | _ => none) = _
      rw [int_of .zero (.inl rfl) r hr]
      simp [signed]
    rw [e]
    dsimp only
    rw [if_pos]
    have e1 : IntKind.min .i64 = -9223372036854775808 := by decide
    have e2 : IntKind.max .i64 = 9223372036854775807 := by decide
    rw [e1, e2]
    generalize mv r / U = q at *
    omega
  unfold f2iOk f2i
  rw [key]
  exact ⟨rfl, rfl⟩
theorem floor_pos (r : Nat) (hr : r < top) : ffloorOk r = true ∧ ffloor r = fofi ((mv r / U : Nat) : Int) := by
  have ht := top_lt
  constructor
  · obtain ⟨m, i, e, hi, em, _⟩ := read_fin r (by rw [rung_of r (by omega)]; exact hr)
    unfold ffloorOk
    show (!(double.read r).isNaN) = true
    rw [e]; rfl
  · show double.write ((double.read r).integral .down) = _
    rw [int_of .down (.inr rfl) r hr]
    show double.nearest false (mv r / U) 0 = _
    rw [nearest_eq, fofi_word, word_false]
theorem f2i_floor (r : Nat) (hr : r < top) (hb : mv r / U < 9007199254740992) : f2iOk (ffloor r) = true ∧ f2i (ffloor r) = f2i r := by
  obtain ⟨h1, h2⟩ := floor_pos r hr
  obtain ⟨h3, h4⟩ := fofi_exact (mv r / U) (by omega)
  rw [h2]
  have h5 : mv (fofi ((mv r / U : Nat) : Int)) / U = mv r / U := by rw [h4, Nat.mul_div_cancel _ U_pos]
  obtain ⟨h6, h7⟩ := f2i_pos _ h3 (by rw [h5]; omega)
  exact ⟨h6, by rw [h7, h5, (f2i_pos r hr (by omega)).2]⟩
theorem fmul_pos (x y : Nat) (hx : x < top) (hy : y < top) : fmulOk x y = true ∧ ∃ R, fmul x y = min R top ∧ Rnd (mv x * mv y) U R := by
  have ht := top_lt
  obtain ⟨R, h1, h2⟩ := mul_fin x y (by rw [rung_of x (by omega)]; exact hx) (by rw [rung_of y (by omega)]; exact hy)
  rw [rung_of x (by omega), rung_of y (by omega)] at h2
  rw [sg_of x (by omega), sg_of y (by omega)] at h1
  have h3 : FloatKind.f64.format.mul x y = some (min R top) := h1
  unfold fmulOk fmul
  rw [h3]
  exact ⟨rfl, R, rfl, h2⟩
theorem fsub_pos (x y : Nat) (hx : x < top) (hy : y < top) (hle : mv y ≤ mv x) : fsubOk x y = true ∧ ∃ R, fsub x y = min R top ∧ Rnd (mv x - mv y) 1 R := by
  have ht := top_lt
  obtain ⟨m, i, e1, hi, em, ei⟩ := read_fin x (by rw [rung_of x (by omega)]; exact hx)
  obtain ⟨n, j, e2, hj, en, ej⟩ := read_fin y (by rw [rung_of y (by omega)]; exact hy)
  rw [sg_of x (by omega)] at e1
  rw [sg_of y (by omega)] at e2
  rw [rung_of x (by omega)] at em
  rw [rung_of y (by omega)] at en
  clear ei ej
  have hb1 : min i j ≤ i := Int.min_le_left _ _
  have hb2 : min i j ≤ j := Int.min_le_right _ _
  have hb3 : -1074 ≤ min i j := by omega
  have key : ∃ T : Nat, FloatKind.f64.format.sub x y = some (double.nearest false T (min i j)) ∧ T * 2 ^ ups (min i j) = mv x - mv y := by
    generalize hbb : min i j = b at *
    have k1 : (m <<< (i - b).toNat) * 2 ^ ups b = mv x := by
      rw [← em, Nat.shiftLeft_eq, Nat.mul_assoc, ← Nat.pow_add]; congr 2; unfold ups; omega
    have k2 : (n <<< (j - b).toNat) * 2 ^ ups b = mv y := by
      rw [← en, Nat.shiftLeft_eq, Nat.mul_assoc, ← Nat.pow_add]; congr 2; unfold ups; omega
    have hle2 : n <<< (j - b).toNat ≤ m <<< (i - b).toNat := by
      rw [← k1, ← k2] at hle
      exact Nat.le_of_mul_le_mul_right hle (Nat.two_pow_pos _)
    refine ⟨m <<< (i - b).toNat - n <<< (j - b).toNat, ?_, by rw [Nat.sub_mul, k1, k2]⟩
    show ((double.read x).sum (double.read y).opposite).map double.write = _
    rw [e1, e2]
    show (Datum.sum (.number false m i) (.number (!false) n j)).map double.write = _
    unfold Datum.sum
    dsimp only
    rw [hbb]
    have et : signed false m (i - b).toNat + signed (!false) n (j - b).toNat = ((m <<< (i - b).toNat - n <<< (j - b).toNat : Nat) : Int) := by
      simp only [signed, Bool.not_false, if_true, Bool.false_eq_true, if_false]
      omega
    rw [et]
    generalize m <<< (i - b).toNat - n <<< (j - b).toNat = T
    show some (double.nearest _ _ b) = _
    congr 2
    by_cases h0 : (T : Int) = 0
    · rw [if_pos h0]; rfl
    · rw [if_neg h0]; exact decide_eq_false (by omega)
  obtain ⟨T, h1, h2⟩ := key
  unfold fsubOk fsub
  rw [h1]
  refine ⟨rfl, nr T (min i j), ?_, ?_⟩
  · show double.nearest false T (min i j) = _
    rw [nearest_eq, word_false]
  · have h3 := nr_rnd T (min i j)
    have h4 : dns (min i j) = 0 := by unfold dns; omega
    rw [h4, h2] at h3
    exact h3
theorem fnan_iff (x : Nat) : fnan x = true ↔ top < rung x := by unfold fnan rung top; rw [decide_eq_true_eq]
theorem order_eq (x y : Nat) : FloatKind.f64.format.order x y = double.order x y := rfl
theorem fne_self (x : Nat) : fne x x = fnan x := by
  by_cases h : top < rung x
  · rw [(fnan_iff x).2 h]
    unfold fne
    rw [order_eq, order_nan x x (.inl h)]; rfl
  · have : fnan x = false := by
      cases hf : fnan x with
      | false => rfl
      | true => exact absurd ((fnan_iff x).1 hf) h
    rw [this]
    unfold fne
    rw [order_eq, order_key x x (by omega) (by omega)]
    have : compare (key x) (key x) = .eq := by
      show compareOfLessAndEq _ _ = _
      unfold compareOfLessAndEq
      rw [if_neg (by omega), if_pos rfl]
    rw [this]; rfl
theorem cmp_cases (a b : Int) : (a < b ∧ compare a b = .lt) ∨ (a = b ∧ compare a b = .eq) ∨ (b < a ∧ compare a b = .gt) := by
  have e : compare a b = compareOfLessAndEq a b := rfl
  rw [e]
  unfold compareOfLessAndEq
  by_cases h : a < b
  · rw [if_pos h]; exact .inl ⟨h, rfl⟩
  · rw [if_neg h]
    by_cases h2 : a = b
    · rw [if_pos h2]; exact .inr (.inl ⟨h2, rfl⟩)
    · rw [if_neg h2]; exact .inr (.inr ⟨by omega, rfl⟩)
theorem flt_key (x y : Nat) (hx : rung x ≤ top) (hy : rung y ≤ top) : flt x y = decide (key x < key y) := by
  unfold flt
  rw [order_eq, order_key x y hx hy]
  rcases cmp_cases (key x) (key y) with ⟨h, e⟩ | ⟨h, e⟩ | ⟨h, e⟩ <;> rw [e] <;> symm
  · exact (decide_eq_true h)
  · exact decide_eq_false (by omega)
  · exact decide_eq_false (by omega)
theorem fgt_key (x y : Nat) (hx : rung x ≤ top) (hy : rung y ≤ top) : fgt x y = decide (key y < key x) := by
  unfold fgt
  rw [order_eq, order_key x y hx hy]
  rcases cmp_cases (key x) (key y) with ⟨h, e⟩ | ⟨h, e⟩ | ⟨h, e⟩ <;> rw [e] <;> symm
  · exact decide_eq_false (by omega)
  · exact decide_eq_false (by omega)
  · exact (decide_eq_true h)
theorem fge_key (x y : Nat) (hx : rung x ≤ top) (hy : rung y ≤ top) : fge x y = decide (key y ≤ key x) := by
  unfold fge
  rw [order_eq, order_key x y hx hy]
  rcases cmp_cases (key x) (key y) with ⟨h, e⟩ | ⟨h, e⟩ | ⟨h, e⟩ <;> rw [e] <;> symm
  · exact decide_eq_false (by omega)
  · exact decide_eq_true (by omega)
  · exact decide_eq_true (by omega)
theorem key_of (x : Nat) (h : x < 9223372036854775808) : key x = x := by
  unfold key; rw [sg_of x h, rung_of x h]; rfl
theorem fsign_sg (x : Nat) (h : x < 18446744073709551616) : fsign x = sg x := by
  unfold fsign sg Go.RowKit.wrap64
  by_cases h1 : x < 9223372036854775808
  · have e : x / 9223372036854775808 = 0 := by omega
    rw [e, decide_eq_false (by omega)]; rfl
  · have e : x / 9223372036854775808 = 1 := by omega
    rw [e, decide_eq_true (by omega)]; rfl
def rank (x : Nat) : Int := if fnan x then 9223372036854775807 else if sg x then -(rung x : Int) - 1 else (rung x : Int)
def sgn (a : Int) : Int := if a < 0 then -1 else if a = 0 then 0 else 1
theorem not_nan (x : Nat) (h : fnan x = false) : rung x ≤ top := by
  false_or_by_contra
  have := (fnan_iff x).2 (by omega)
  rw [this] at h; cases h
theorem rank_num (x : Nat) (h : fnan x = false) : rank x < 9223372036854775807 ∧ (key x = 0 ∨ rank x = if sg x then key x - 1 else key x) ∧ (key x = 0 → rank x = if sg x then -1 else 0) := by
  have h1 := not_nan x h
  have ht : top = 9218868437227405312 := rfl
  unfold rank key
  rw [h]
  cases sg x <;> simp <;> omega
theorem rank_lt (x y : Nat) (hx : fnan x = false) (hy : fnan y = false) (h : key x < key y) : rank x < rank y := by
  have h1 := not_nan x hx
  have h2 := not_nan y hy
  unfold rank key at *
  rw [hx, hy]
  cases hsx : sg x <;> cases hsy : sg y <;> simp only [hsx, hsy, if_true, Bool.false_eq_true, if_false] at * <;> omega
theorem rank_eq (x y : Nat) (hx : fnan x = false) (hy : fnan y = false) (h : key x = key y) (h0 : key x ≠ 0) : rank x = rank y := by
  unfold rank key at *
  rw [hx, hy]
  cases hsx : sg x <;> cases hsy : sg y <;> simp only [hsx, hsy, if_true, Bool.false_eq_true, if_false] at * <;> omega
theorem rank_zero (x : Nat) (hx : fnan x = false) (h : key x = 0) : rank x = if sg x then -1 else 0 := (rank_num x hx).2.2 h
theorem rank_nan (x : Nat) (hx : fnan x = true) : rank x = 9223372036854775807 := by unfold rank; rw [hx]; rfl
theorem one_rung : ∃ E, mv E = U ∧ E = 4607182418800017408 := by
  obtain ⟨E, hE⟩ : ∃ E, E = K74 - 52 := ⟨_, rfl⟩
  have hE2 : E = 1022 := by rw [hE]; rfl
  refine ⟨E * 4503599627370496 + 4503599627370496, ?_, by rw [hE2]⟩
  rw [mv_scale E 4503599627370496 (.inr ⟨by omega, by omega⟩), hE]
  unfold U
  have e : K74 = 52 + (K74 - 52) := by unfold K74; omega
  generalize K74 = k at *
  rw [e, Nat.pow_add, pow52]
  congr 2
  omega
theorem mv_one : mv 4607182418800017408 = U := by
  obtain ⟨E, h1, h2⟩ := one_rung
  rw [← h2]; exact h1
theorem read_lt (w : Nat) (m : Nat) (p : Int) (s : Bool) (h : rung w < top) (e : double.read w = .number s m p) : m < 9007199254740992 := by
  have e1 : double.signWeight = 9223372036854775808 := by decide
  have e2 : double.binade = 4503599627370496 := by decide
  have e3 : double.infRung = top := by decide
  have e4 : double.leastPlace = -1074 := by decide
  unfold Format.read at e
  simp only [e1, e2, e3, e4] at e
  change (if rung w < 4503599627370496 then Datum.number (sg w) (rung w) (-1074) else if rung w < top then Datum.number (sg w) (4503599627370496 + rung w % 4503599627370496) (-1074 + (rung w / 4503599627370496 - 1 : Nat)) else _) = _ at e
  by_cases h1 : rung w < 4503599627370496
  · rw [if_pos h1] at e
    injection e with _ e _
    omega
  · rw [if_neg h1, if_pos h] at e
    injection e with _ e _
    have := Nat.mod_lt (rung w) (show 0 < 4503599627370496 by omega)
    omega
theorem log_lt (m : Nat) (h : m < 9007199254740992) : m.log2 ≤ 52 := by
  by_cases h0 : m = 0
  · subst h0; decide
  · have := (Nat.log2_lt h0 (k := 53)).2 (by rw [pow53]; exact h)
    omega
theorem quo_some (x y : Nat) (hx : rung x < top) (hy : rung y < top) (h0 : rung y ≠ 0) : ∃ N D R : Nat, 0 < D ∧ FloatKind.f64.format.div x y = some (double.word (sg x ^^ sg y) (min R top)) ∧ Rnd N D R ∧
    (rung x = 0 → N = 0) ∧
    18014398509481984 * (N * mv (rung y)) ≤ 18014398509481985 * (D * (mv (rung x) * U)) ∧
    18014398509481983 * (D * (mv (rung x) * U)) ≤ 18014398509481984 * (N * mv (rung y)) := by
  obtain ⟨m, i, e1, hi, em, ei⟩ := read_fin x hx
  obtain ⟨n, j, e2, hj, en, ej⟩ := read_fin y hy
  have hm := read_lt x m i _ hx e1
  have hn := read_lt y n j _ hy e2
  have hn0 : n ≠ 0 := by
    intro h
    rw [h, Nat.zero_mul, ← mv_zero] at en
    exact h0 (mv_inj en).symm
  have lm := log_lt m hm
  have ln := log_lt n hn
  obtain ⟨more, hmore⟩ : ∃ k, k = 54 + n.log2 - m.log2 := ⟨_, rfl⟩
  have hdiv : FloatKind.f64.format.div x y = some (double.nearest (sg x ^^ sg y) (2 * ((m <<< more) / n) + ((m <<< more) % n != 0).toNat) (i - j - more - 1)) := by
    show ((double.read x).quotient (double.fractionBits + 2) (double.read y)).map double.write = _
    rw [e1, e2]
    unfold Datum.quotient
    dsimp only
    rw [if_neg hn0]
    have e4 : double.fractionBits + 2 = 54 := by decide
    rw [e4, ← hmore]
    rfl
  rw [Nat.shiftLeft_eq] at hdiv
  obtain ⟨A, hA⟩ : ∃ A, A = m * 2 ^ more := ⟨_, rfl⟩
  obtain ⟨q, hq⟩ : ∃ q, q = 2 * (A / n) + (A % n != 0).toNat := ⟨_, rfl⟩
  obtain ⟨P, hP⟩ : ∃ P : Int, P = i - j - more - 1 := ⟨_, rfl⟩
  rw [← hA, ← hq, ← hP, nearest_eq] at hdiv
  have hB : 0 < n := Nat.pos_of_ne_zero hn0
  have hqb : 2 * A ≤ q * n + n ∧ q * n ≤ 2 * A + n := by
    have hdm := Nat.div_add_mod A n
    have hml := Nat.mod_lt A hB
    rw [hq]
    rw [Nat.add_mul, Nat.mul_assoc, Nat.mul_comm (A / n) n]
    by_cases hz : A % n = 0
    · rw [hz, Nat.add_zero] at hdm
      have : (A % n != 0).toNat = 0 := by rw [hz]; rfl
      rw [this, Nat.zero_mul]
      omega
    · have : (A % n != 0).toNat = 1 := by
        have : (A % n != 0) = true := bne_iff_ne.2 hz
        rw [this]; rfl
      rw [this, Nat.one_mul]
      omega
  have hbig : rung x ≠ 0 → 9007199254740992 * n ≤ A := by
    intro hx0
    have hm0 : m ≠ 0 := by
      intro h
      rw [h, Nat.zero_mul, ← mv_zero] at em
      exact hx0 (mv_inj em).symm
    have h1 : 2 ^ m.log2 * 2 ^ more ≤ m * 2 ^ more := Nat.mul_le_mul_right _ (Nat.log2_self_le hm0)
    have h2 : n < 2 ^ (n.log2 + 1) := Nat.lt_log2_self
    rw [← Nat.pow_add, show m.log2 + more = 53 + (n.log2 + 1) by omega, Nat.pow_add, pow53] at h1
    rw [hA]
    have h3 : 9007199254740992 * n ≤ 9007199254740992 * 2 ^ (n.log2 + 1) := Nat.mul_le_mul_left _ (by omega)
    omega
  have hval : 2 * A * 2 ^ ups P * mv (rung y) = n * (2 ^ dns P * (mv (rung x) * U)) := by
    rw [← em, ← en, hA]
    unfold U
    have s1 : 2 * (m * 2 ^ more) * 2 ^ ups P * (n * 2 ^ ups j) = (m * n) * (2 ^ 1 * 2 ^ more * 2 ^ ups P * 2 ^ ups j) := by
      rw [Nat.pow_one]
      generalize 2 ^ more = a
      generalize 2 ^ ups P = b
      generalize 2 ^ ups j = c
      ac_rfl
    have s2 : n * (2 ^ dns P * (m * 2 ^ ups i * 2 ^ K74)) = (m * n) * (2 ^ dns P * 2 ^ ups i * 2 ^ K74) := by
      generalize 2 ^ dns P = a
      generalize 2 ^ ups i = b
      generalize 2 ^ K74 = c
      ac_rfl
    rw [s1, s2, ← Nat.pow_add, ← Nat.pow_add, ← Nat.pow_add, ← Nat.pow_add, ← Nat.pow_add]
    refine congrArg (fun e => m * n * 2 ^ e) ?_
    have hk : K74 = 1074 := rfl
    unfold ups dns; omega
  refine ⟨q * 2 ^ ups P, 2 ^ dns P, nr q P, Nat.two_pow_pos _, hdiv, nr_rnd q P, ?_, ?_⟩
  · intro hx0
    rw [hx0, mv_zero] at em
    have hm0 : m = 0 := by
      rcases Nat.mul_eq_zero.1 em with h | h
      · exact h
      · exact absurd h (Nat.ne_of_gt (Nat.two_pow_pos _))
    rw [hm0, Nat.zero_mul] at hA
    rw [hA] at hq
    rw [hq]
    simp
  · by_cases hx0 : rung x = 0
    · have hN : q = 0 := by
        rw [hx0, mv_zero] at em
        have hm0 : m = 0 := by
          rcases Nat.mul_eq_zero.1 em with h | h
          · exact h
          · exact absurd h (Nat.ne_of_gt (Nat.two_pow_pos _))
        rw [hm0, Nat.zero_mul] at hA
        rw [hA] at hq
        rw [hq]
        simp
      rw [hN, hx0, mv_zero]
      simp
    · have hb := hbig hx0
      generalize mv (rung y) = V at *
      generalize mv (rung x) * U = T at *
      generalize 2 ^ ups P = a at *
      generalize 2 ^ dns P = d at *
      -- all times n
      have k1 : q * n * (a * V) ≤ (2 * A + n) * (a * V) := Nat.mul_le_mul_right _ hqb.2
      have k2 : 2 * A * (a * V) ≤ (q * n + n) * (a * V) := Nat.mul_le_mul_right _ hqb.1
      have k3 : 2 * A * (a * V) = n * (d * T) := by rw [← hval, Nat.mul_assoc (2 * A)]
      have k4 : 2 * (9007199254740992 * n) * (a * V) ≤ 2 * A * (a * V) := Nat.mul_le_mul_right _ (by omega)
      rw [Nat.add_mul, k3] at k1
      rw [Nat.add_mul, k3] at k2
      rw [k3, show 2 * (9007199254740992 * n) = n * 18014398509481984 by omega, Nat.mul_assoc] at k4
      have k5 : q * n * (a * V) = n * (q * a * V) := by
        ac_rfl
      rw [k5, ← Nat.mul_add] at k1
      rw [k5, ← Nat.mul_add] at k2
      have k1 := Nat.le_of_mul_le_mul_left k1 hB
      have k2 := Nat.le_of_mul_le_mul_left k2 hB
      have k4 := Nat.le_of_mul_le_mul_left k4 hB
      generalize q * a * V = Z at *
      generalize d * T = Y at *
      generalize a * V = W at *
      omega
def nearV (L x : Nat) : Nat := if fnan x then L else if 4607182418800017408 ≤ key x then L else if key x ≤ 0 then 0 else mv (fmul (fofi (L : Int)) x) / U
theorem fabs_rung (x : Nat) (h : x < 18446744073709551616) : fabs x = rung x := by
  unfold fabs
  rw [u64_andNot (x : Int) 9223372036854775808 (by omega) (by omega) (by omega) (by omega)]
  rw [Int.toNat_natCast, Int.toNat_natCast]
  have e : 18446744073709551615 - (9223372036854775808 : Int).toNat = 2 ^ 63 - 1 := by decide
  rw [e, Nat.and_two_pow_sub_one_eq_mod]
  rfl
end Go.Proofs.Ytipbigdpannlcaa.Flt
