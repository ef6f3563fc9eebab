/- HashSlots: a text's slot among n is the document's slot, and from 0 to below n (0 of no slots), for every text and n; no condition. -/
import Derived.Test.YtjiaombbjmhmoaaPHashSlotsx1
namespace Go.Proofs.Ytjiaombbjmhmoaa.Pure
open Go.RowKit Go.Proofs.Ytjiaombbjmhmoaa.PHashSlots Go.Proofs.YtjiaombbjmhmoaaW.PrintWords Go.Proofs.YtjiaombbjmhmoaaW.PrintLast Go.Proofs.YtjiaombbjmhmoaaW.PrintMore

theorem wrap_step {i : Int} {n : Nat} (h0 : 0 ≤ i) (h : i < (n : Int)) (hn : n ≤ 9000000000000000000) : wrap64 (i + 1) = i + 1 := by
  unfold wrap64
  omega
theorem u64_rng (x : Int) : 0 ≤ IntKind.u64.wrap x ∧ IntKind.u64.wrap x < 18446744073709551616 := by
  rw [IntKind.wrap_u64]; omega
/-- The sum of the bytes from i on, d of them, upon h. -/
def sumR (s : ByteArray) : Nat → Int → Int → Int
  | 0, h, _ => h
  | d + 1, h, i => sumR s d (IntKind.u64.wrap ((Go.bits .xor .u64 h (IntKind.u64.wrap (bt s i))) * 1099511628211)) (i + 1)
theorem sumR_rng (s : ByteArray) (d : Nat) : ∀ h i, 0 ≤ h → h < 18446744073709551616 → 0 ≤ sumR s d h i ∧ sumR s d h i < 18446744073709551616 := by
  induction d with
  | zero => intro h i h0 h1; exact ⟨h0, h1⟩
  | succ d ih => intro h i _ _; exact ih _ _ (u64_rng _).1 (u64_rng _).2
theorem hash_l0 (s : ByteArray) (hn : s.size ≤ 9000000000000000000) (d : Nat) : ∀ (k : Nat) (h i : Int), 0 ≤ i → i ≤ s.size → (s.size : Int) - i = d → d < k →
    hash_Sum.l0 k s h (s.size : Int) i = some (sumR s d h i) := by
  induction d with
  | zero =>
    intro k h i h0 h1 hd hk
    obtain ⟨k, rfl⟩ : ∃ m, k = m + 1 := ⟨k - 1, by omega⟩
    simp only [hash_Sum.l0]; rw [if_neg (by omega)]; rfl
  | succ d ih =>
    intro k h i h0 h1 hd hk
    obtain ⟨k, rfl⟩ : ∃ m, k = m + 1 := ⟨k - 1, by omega⟩
    simp only [hash_Sum.l0]; rw [if_pos (by omega), if_pos h0, if_pos (by omega), wrap_step h0 (by omega) hn]
    exact ih k _ _ (by omega) (by omega) (by omega) (by omega)
theorem hash_f (s : ByteArray) (hn : s.size ≤ 9000000000000000000) (k : Nat) (hk : s.size < k) : hash_Sum.f k s = some (sumR s s.size 14695981039346656037 0) :=
  hash_l0 s hn s.size k _ 0 (by omega) (by omega) (by omega) hk
theorem awake_ev : ∃ K, ∀ k, K ≤ k → turncocklaw20_awake.f k = some true := Ev.of turncocklaw20_awake.mono (k := 3) (by decide +kernel)

theorem ref_l0 (s : ByteArray) (hn : s.size ≤ 9000000000000000000) (d : Nat) : ∀ (k : Nat) (h i : Int), 0 ≤ i → i ≤ s.size → (s.size : Int) - i = d → d < k →
    turncockref20_Sum.l0 k s h i = some (sumR s d h i) := by
  induction d with
  | zero =>
    intro k h i h0 h1 hd hk
    obtain ⟨k, rfl⟩ : ∃ m, k = m + 1 := ⟨k - 1, by omega⟩
    simp only [turncockref20_Sum.l0]; rw [if_neg (by omega)]; rfl
  | succ d ih =>
    intro k h i h0 h1 hd hk
    obtain ⟨k, rfl⟩ : ∃ m, k = m + 1 := ⟨k - 1, by omega⟩
    simp only [turncockref20_Sum.l0]; rw [if_pos (by omega), if_pos h0, wrap_step h0 (by omega) hn]
    exact ih k _ _ (by omega) (by omega) (by omega) (by omega)
theorem ref_f (s : ByteArray) (hn : s.size ≤ 9000000000000000000) (k : Nat) (hk : s.size < k) : turncockref20_Sum.f k s = some (sumR s s.size 14695981039346656037 0) :=
  ref_l0 s hn s.size k _ 0 (by omega) (by omega) (by omega) hk

theorem HashSlots : turncocklaw20_HashSlots.Pure := by
  intro s n hn hw
  have hw' : -9223372036854775808 ≤ n ∧ n ≤ 9223372036854775807 := by
    simpa [Lit.wf, IntKind.min, IntKind.max, IntKind.signed, IntKind.bits] using hw
  obtain ⟨K, hK⟩ := awake_ev
  have hR := sumR_rng s s.size 14695981039346656037 0 (by omega) (by omega)
  refine ⟨K + s.size + 1, ?_⟩
  unfold turncocklaw20_HashSlots.f hash_Slot.f turncockref20_Slot.f
  rw [hash_f s (by omega) _ (by omega), ref_f s (by omega) _ (by omega), hK _ (by omega)]
  by_cases h1 : n < 1
  · simp [h1]
  · have hu : IntKind.u64.wrap n = n := by rw [IntKind.wrap_u64]; omega
    generalize sumR s s.size 14695981039346656037 0 = r at hR
    have e : Int.tmod r n = r % n := Int.tmod_eq_emod_of_nonneg hR.1
    have m0 := Int.emod_nonneg r (show n ≠ 0 by omega)
    have m1 := Int.emod_lt_of_pos r (show 0 < n by omega)
    have hz : wrap64 (r % n) = r % n := by unfold wrap64; omega
    rw [if_neg h1]
    simp only [Option.bind_some, hu, e, hz]
    rw [if_neg (show ¬ n = 0 by omega)]
    simp only [Option.bind_some, if_true]
    rw [if_pos (by omega), if_neg h1, if_pos (by omega), if_pos m1]

end Go.Proofs.Ytjiaombbjmhmoaa.Pure
