/- DescName: a text is a name just if it has 1 to 64 bytes, all to be seen, none a blank, for every text; the tables of Go's library that the row lists are tied by the card. -/
import Derived.Test.YtpemmaffbcbcjaaDoorPDescNamex5
set_option linter.unusedSimpArgs false
set_option linter.unusedVariables false
namespace Go.Proofs.YtpemmaffbcbcjaaDoor.Pure
open Go.RowKit Go.Proofs.YtpemmaffbcbcjaaDoor.PDescName Go.Proofs.YtpemmaffbcbcjaaDoorW.PrintWords Go.Proofs.YtpemmaffbcbcjaaDoorW.PrintLast Go.Proofs.YtpemmaffbcbcjaaDoorW.PrintMore
open Go.Proofs.YtpemmaffbcbcjaaDoor

theorem awake_ev : ∃ K, ∀ k, K ≤ k → turncocklaw6_awake.f k = some true := Ev.of turncocklaw6_awake.mono (k := 14) (by decide +kernel)
theorem step1 {i n : Nat} (h : i < n) (hn : n ≤ 9000000000000000000) : wrap64 ((i : Int) + 1) = ((i + 1 : Nat) : Int) := by unfold wrap64; omega
theorem name_both (s : ByteArray) (hn : s.size ≤ 9000000000000000000) (d : Nat) : ∀ i : Nat, i + d = s.size →
    ∃ b : Bool, ∀ k, d < k → turncockref1_Name.l0 k s (i : Int) = some b ∧ desc_Name.l0 k s (s.size : Int) (i : Int) = some (b && (decide (1 ≤ s.size) && decide (s.size ≤ 64))) := by
  induction d with
  | zero =>
    intro i hi
    refine ⟨true, fun k hk => ?_⟩
    obtain ⟨k, rfl⟩ : ∃ m, k = m + 1 := ⟨k - 1, by omega⟩
    simp only [turncockref1_Name.l0, desc_Name.l0]
    rw [if_neg (by omega), if_neg (by omega)]
    refine ⟨rfl, ?_⟩
    by_cases h : (s.size : Int) ≥ 1
    · rw [if_pos h, decide_eq_true (show 1 ≤ s.size by omega), Bool.true_and, Bool.true_and]
      congr 1; rw [decide_eq_decide]; omega
    · rw [if_neg h, decide_eq_false (show ¬ 1 ≤ s.size by omega)]; rfl
  | succ d ih =>
    intro i hi
    by_cases h1 : bt s (i : Int) < 33
    · refine ⟨false, fun k hk => ?_⟩
      obtain ⟨k, rfl⟩ : ∃ m, k = m + 1 := ⟨k - 1, by omega⟩
      simp only [turncockref1_Name.l0, desc_Name.l0]
      rw [if_pos (by omega), if_pos (by omega), if_pos h1, if_pos (by omega), if_pos (by omega), if_pos (by omega), if_pos h1]
      exact ⟨rfl, rfl⟩
    · by_cases h2 : bt s (i : Int) > 126
      · refine ⟨false, fun k hk => ?_⟩
        obtain ⟨k, rfl⟩ : ∃ m, k = m + 1 := ⟨k - 1, by omega⟩
        simp only [turncockref1_Name.l0, desc_Name.l0]
        rw [if_pos (by omega), if_pos (by omega), if_neg h1, if_pos h2, if_pos (by omega), if_pos (by omega), if_pos (by omega), if_neg h1, if_pos h2]
        exact ⟨rfl, rfl⟩
      · obtain ⟨b, hb⟩ := ih (i + 1) (by omega)
        refine ⟨b, fun k hk => ?_⟩
        obtain ⟨k, rfl⟩ : ∃ m, k = m + 1 := ⟨k - 1, by omega⟩
        simp only [turncockref1_Name.l0, desc_Name.l0]
        rw [if_pos (by omega), if_pos (by omega), if_neg h1, if_neg h2, if_pos (by omega), if_pos (by omega), if_pos (by omega), if_neg h1, if_neg h2, step1 (show i < s.size by omega) hn]
        exact hb k (by omega)
/-- Is a text a name: both functions tell the same. -/
theorem name_same (s : ByteArray) (hn : s.size ≤ 9000000000000000000) : ∃ b : Bool, (b = true → s.size ≤ 64) ∧ ∀ k, s.size + 1 < k → turncockref1_Name.f k s = some b ∧ desc_Name.f k s = some b := by
  obtain ⟨b, hb⟩ := name_both s hn s.size 0 (by omega)
  refine ⟨b && (decide (1 ≤ s.size) && decide (s.size ≤ 64)), fun h => by simp at h; omega, fun k hk => ⟨?_, (hb k (by omega)).2⟩⟩
  obtain ⟨k, rfl⟩ : ∃ m, k = m + 1 := ⟨k - 1, by omega⟩
  unfold turncockref1_Name.f
  by_cases h1 : (s.size : Int) < 1
  · rw [if_pos h1]
    simp only [turncockref1_Name.j0]
    rw [decide_eq_false (show ¬ 1 ≤ s.size by omega)]
    simp
  · rw [if_neg h1]
    by_cases h2 : (s.size : Int) > 64
    · rw [decide_eq_true h2]
      simp only [turncockref1_Name.j0]
      rw [decide_eq_false (show ¬ s.size ≤ 64 by omega)]
      simp
    · rw [decide_eq_false h2]
      simp only [turncockref1_Name.j0]
      rw [decide_eq_true (show 1 ≤ s.size by omega), decide_eq_true (show s.size ≤ 64 by omega), if_neg (by decide)]
      have := (hb k (by omega)).1
      simp only [Bool.and_true]
      exact this
theorem DescName : turncocklaw6_DescName.Pure := by
  intro s hn
  obtain ⟨K, hK⟩ := awake_ev
  obtain ⟨b, _, hb⟩ := name_same s (by omega)
  refine ⟨K + s.size + 2, ?_⟩
  unfold turncocklaw6_DescName.f
  rw [(hb _ (by omega)).1, (hb _ (by omega)).2, hK _ (by omega)]
  simp

end Go.Proofs.YtpemmaffbcbcjaaDoor.Pure
