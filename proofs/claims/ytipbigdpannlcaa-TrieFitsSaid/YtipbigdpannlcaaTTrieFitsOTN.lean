/- What the law TrieFits uses, thinned: printed by shake2.py. -/
import Derived.Test.YtipbigdpannlcaaTTrieFitsOTI
import Derived.Test.YtipbigdpannlcaaTTrieFitsPTrieFitsx7
namespace Go.Proofs.Ytipbigdpannlcaa.Tr
open Go.RowKit Go.Proofs.Ytipbigdpannlcaa.PTrieFits Go.Proofs.Ytipbigdpannlcaa.Pure Go.Proofs.YtipbigdpannlcaaW.PrintWords Go.Proofs.YtipbigdpannlcaaW.PrintLast Go.Proofs.YtipbigdpannlcaaW.PrintMore
set_option maxRecDepth 100000
set_option linter.unusedVariables false
set_option linter.unusedSectionVars false
theorem ksz : (keysL.all fun s => decide (s.size ≤ 64)) = true := by decide
section
variable {L : List Int} (hL : L.length ≤ 1000000)
include hL
theorem key_f {p : Int} (hp : TS L p) : ∃ k q, turncockmake_key.f L p = some (k, q) ∧ k.size ≤ 64 ∧ TS L q := by
  have sz : ∀ s ∈ keysL, s.size ≤ 64 := fun s hs => by simpa using List.all_eq_true.1 ksz s hs
  obtain ⟨e0, a0, b0, t0⟩ := nx_f hL hp (n := 14) (by omega) (by omega)
  unfold turncockmake_key.f
  rw [e0, Option.bind_some, show turncockmake_Keys.f = some keysL from rfl]
  by_cases h : (nx L p 14).1 < 12
  · have h1 : 0 ≤ Int.tmod (nx L p 14).1 3 := Int.tmod_nonneg _ a0
    have h2 : Int.tmod (nx L p 14).1 3 < 3 := Int.tmod_lt_of_pos _ (by omega)
    rw [if_pos h, Option.bind_some, if_pos h1, if_pos (show Int.tmod (nx L p 14).1 3 < (keysL.length : Int) by show _ < (5 : Int); omega)]
    exact ⟨_, _, rfl, sz _ (getD_mem_B hL h1 (by show _ < (5 : Int); omega) _), t0⟩
  · rw [if_neg h, Option.bind_some]
    obtain ⟨e1, a1, t1⟩ := of_f hL t0 (l := keysL) (by decide) (by decide)
    rw [e1, Option.bind_some]
    exact ⟨_, _, rfl, sz _ a1, t1⟩
theorem desc_loop {n : Int} (hn : n ≤ 3) : ∀ (d : Nat) (i p : Int) (acc : List EN) (k : Nat), i + d = n → 0 ≤ i → acc.length = i.toNat → (∀ x ∈ acc, x.f0.size ≤ 64 ∧ x.f1.size ≤ 128) → TS L p → d < k →
    ∃ l q, turncockmake_Desc.l0 k n i L p acc = some (l, q) ∧ l.length ≤ 3 ∧ (∀ x ∈ l, x.f0.size ≤ 64 ∧ x.f1.size ≤ 128) ∧ TS L q := by
  have sv : ∀ s ∈ valsL, s.size ≤ 128 := fun s hs => by
    have := List.all_eq_true.1 vals_ok s hs
    simp only [decide_eq_true_eq] at this
    omega
  have snoc : ∀ (acc : List EN) (x : EN), (∀ x ∈ acc, x.f0.size ≤ 64 ∧ x.f1.size ≤ 128) → x.f0.size ≤ 64 → x.f1.size ≤ 128 → ∀ y ∈ acc ++ [x], y.f0.size ≤ 64 ∧ y.f1.size ≤ 128 := by
    intro acc x ha h0 h1 y hy
    rcases List.mem_append.1 hy with h | h
    · exact ha y h
    · simp at h; rw [h]; exact ⟨h0, h1⟩
  intro d
  induction d with
  | zero =>
    intro i p acc k hi h0 hl ha hp hk
    obtain ⟨k, rfl⟩ : ∃ m, k = m + 1 := ⟨k - 1, by omega⟩
    rw [turncockmake_Desc.l0, if_neg (by omega)]
    exact ⟨acc, p, rfl, by omega, ha, hp⟩
  | succ d ih =>
    intro i p acc k hi h0 hl ha hp hk
    obtain ⟨k, rfl⟩ : ∃ m, k = m + 1 := ⟨k - 1, by omega⟩
    obtain ⟨e1, a1, b1, t1⟩ := nx_f hL hp (n := 2) (by omega) (by omega)
    obtain ⟨e2, a2, b2, t2⟩ := nx_f hL t1 (n := 6) (by omega) (by omega)
    have hv : (nx L p 2).1 < (valsL.length : Int) := by show _ < (7 : Int); omega
    rw [turncockmake_Desc.l0, if_pos (by omega), show turncockmake_Values.f = some valsL from rfl, Option.bind_some, e1, Option.bind_some, if_pos a1, if_pos hv, e2, Option.bind_some]
    have ew : wrap64 (i + 1) = i + 1 := wrap_small (by omega) (by omega)
    by_cases h : (nx L (nx L p 2).2 6).1 = 0
    · rw [if_pos h, Option.bind_some]
      obtain ⟨e3, a3, t3⟩ := of_f hL t2 (l := valsL) (by decide) (by decide)
      rw [e3, Option.bind_some]
      obtain ⟨kk, q, e4, s4, t4⟩ := key_f hL t3
      rw [e4, Option.bind_some, if_pos (by omega), ew]
      exact ih _ _ _ _ (by omega) (by omega) (by rw [List.length_append, List.length_singleton]; omega) (snoc _ _ ha s4 (sv _ a3)) t4 (by omega)
    · rw [if_neg h]
      obtain ⟨kk, q, e4, s4, t4⟩ := key_f hL t2
      rw [e4, Option.bind_some, if_pos (by omega), ew]
      exact ih _ _ _ _ (by omega) (by omega) (by rw [List.length_append, List.length_singleton]; omega) (snoc _ _ ha s4 (sv _ (getD_mem_B hL a1 hv _))) t4 (by omega)
theorem desc_f {p : Int} (hp : TS L p) : ∃ l q, turncockmake_Desc.f 10 L p = some (l, q) ∧ l.length ≤ 3 ∧ (∀ x ∈ l, x.f0.size ≤ 64 ∧ x.f1.size ≤ 128) ∧ TS L q := by
  obtain ⟨e0, a0, b0, t0⟩ := nx_f hL hp (n := 3) (by omega) (by omega)
  unfold turncockmake_Desc.f
  rw [e0, Option.bind_some, wrap_small (x := 1 + (nx L p 3).1) (by omega) (by omega)]
  exact desc_loop hL (by omega) (1 + (nx L p 3).1).toNat 0 _ [] 10 (by omega) (by omega) rfl (fun x hx => by cases hx) t0 (by omega)
end
end Go.Proofs.Ytipbigdpannlcaa.Tr
