/- HashSums: a text's sum is the document's sum, for every text; no condition. -/
import Derived.Test.YtjiaombbjmhmoaaPHashSumsx1
namespace Go.Proofs.Ytjiaombbjmhmoaa.Pure
open Go.RowKit Go.Proofs.Ytjiaombbjmhmoaa.PHashSums Go.Proofs.YtjiaombbjmhmoaaW.PrintWords Go.Proofs.YtjiaombbjmhmoaaW.PrintLast Go.Proofs.YtjiaombbjmhmoaaW.PrintMore

theorem wrap_step {i : Int} {n : Nat} (h0 : 0 ≤ i) (h : i < (n : Int)) (hn : n ≤ 9000000000000000000) : wrap64 (i + 1) = i + 1 := by
  unfold wrap64
  omega
theorem u64_rng (x : Int) : 0 ≤ IntKind.u64.wrap x ∧ IntKind.u64.wrap x < 18446744073709551616 := by
  rw [IntKind.wrap_u64]; omega
/-- The sum of the bytes from i on, d of them, upon h. -/
def sumR (s : ByteArray) : Nat → Int → Int → Int
  | 0, h, _ => h
  | d + 1, h, i => sumR s d (IntKind.u64.wrap ((Go.bits .xor .u64 h (IntKind.u64.wrap (bt s i))) * 1099511628211)) (i + 1)
theorem sumR_rng (s : ByteArray) (d : Nat) : ∀ h i, 0 ≤ h → h < 18446744073709551616 → 0 ≤ sumR s d h i ∧ sumR s d h i < 18446744073709551616 := by
  induction d with
  | zero => intro h i h0 h1; exact ⟨h0, h1⟩
  | succ d ih => intro h i _ _; exact ih _ _ (u64_rng _).1 (u64_rng _).2
theorem hash_l0 (s : ByteArray) (hn : s.size ≤ 9000000000000000000) (d : Nat) : ∀ (k : Nat) (h i : Int), 0 ≤ i → i ≤ s.size → (s.size : Int) - i = d → d < k →
    hash_Sum.l0 k s h (s.size : Int) i = some (sumR s d h i) := by
  induction d with
  | zero =>
    intro k h i h0 h1 hd hk
    obtain ⟨k, rfl⟩ : ∃ m, k = m + 1 := ⟨k - 1, by omega⟩
    simp only [hash_Sum.l0]; rw [if_neg (by omega)]; rfl
  | succ d ih =>
    intro k h i h0 h1 hd hk
    obtain ⟨k, rfl⟩ : ∃ m, k = m + 1 := ⟨k - 1, by omega⟩
    simp only [hash_Sum.l0]; rw [if_pos (by omega), if_pos h0, if_pos (by omega), wrap_step h0 (by omega) hn]
    exact ih k _ _ (by omega) (by omega) (by omega) (by omega)
theorem hash_f (s : ByteArray) (hn : s.size ≤ 9000000000000000000) (k : Nat) (hk : s.size < k) : hash_Sum.f k s = some (sumR s s.size 14695981039346656037 0) :=
  hash_l0 s hn s.size k _ 0 (by omega) (by omega) (by omega) hk
theorem awake_ev : ∃ K, ∀ k, K ≤ k → turncocklaw20_awake.f k = some true := Ev.of turncocklaw20_awake.mono (k := 3) (by decide +kernel)

theorem ref_l0 (s : ByteArray) (hn : s.size ≤ 9000000000000000000) (d : Nat) : ∀ (k : Nat) (h i : Int), 0 ≤ i → i ≤ s.size → (s.size : Int) - i = d → d < k →
    turncockref20_Sum.l0 k s h i = some (sumR s d h i) := by
  induction d with
  | zero =>
    intro k h i h0 h1 hd hk
    obtain ⟨k, rfl⟩ : ∃ m, k = m + 1 := ⟨k - 1, by omega⟩
    simp only [turncockref20_Sum.l0]; rw [if_neg (by omega)]; rfl
  | succ d ih =>
    intro k h i h0 h1 hd hk
    obtain ⟨k, rfl⟩ : ∃ m, k = m + 1 := ⟨k - 1, by omega⟩
    simp only [turncockref20_Sum.l0]; rw [if_pos (by omega), if_pos h0, wrap_step h0 (by omega) hn]
    exact ih k _ _ (by omega) (by omega) (by omega) (by omega)
theorem ref_f (s : ByteArray) (hn : s.size ≤ 9000000000000000000) (k : Nat) (hk : s.size < k) : turncockref20_Sum.f k s = some (sumR s s.size 14695981039346656037 0) :=
  ref_l0 s hn s.size k _ 0 (by omega) (by omega) (by omega) hk

theorem HashSums : turncocklaw20_HashSums.Pure := by
  intro s hn
  obtain ⟨K, hK⟩ := awake_ev
  refine ⟨K + s.size + 1, ?_⟩
  unfold turncocklaw20_HashSums.f
  rw [hash_f s (by omega) _ (by omega), ref_f s (by omega) _ (by omega)]
  simp only [Option.bind_some, if_true]
  rw [hK _ (by omega)]; rfl

end Go.Proofs.Ytjiaombbjmhmoaa.Pure
