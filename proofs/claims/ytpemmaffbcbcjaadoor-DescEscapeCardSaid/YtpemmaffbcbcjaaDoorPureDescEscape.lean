/- DescEscape: a text escaped has signs that stand for themselves and % alone, and unlike texts are escaped unlike, for every two texts; the tables of Go's library that the row lists are tied by the card. -/
import Derived.Test.YtpemmaffbcbcjaaDoorPDescEscapex6
set_option linter.unusedSimpArgs false
set_option linter.unusedVariables false
namespace Go.Proofs.YtpemmaffbcbcjaaDoor.Pure
open Go.RowKit Go.Proofs.YtpemmaffbcbcjaaDoor.PDescEscape Go.Proofs.YtpemmaffbcbcjaaDoorW.PrintWords Go.Proofs.YtpemmaffbcbcjaaDoorW.PrintLast Go.Proofs.YtpemmaffbcbcjaaDoorW.PrintMore
open Go.Proofs.YtpemmaffbcbcjaaDoor

theorem awake_ev : ∃ K, ∀ k, K ≤ k → turncocklaw6_awake.f k = some true := Ev.of turncocklaw6_awake.mono (k := 14) (by decide +kernel)
theorem step1 {i n : Nat} (h : i < n) (hn : n ≤ 9000000000000000000) : wrap64 ((i : Int) + 1) = ((i + 1 : Nat) : Int) := by unfold wrap64; omega
theorem one_back : ∀ n : Fin 256, (desc_Escape.one (UInt8.ofNat n.val) = [UInt8.ofNat n.val] ∧ UInt8.ofNat n.val ≠ 37) ∨ (∃ a b, desc_Escape.one (UInt8.ofNat n.val) = [37, a, b] ∧ desc_plainly.val a b = UInt8.ofNat n.val) := by
  have h : ∀ n : Fin 256, (desc_Escape.one (UInt8.ofNat n.val) = [UInt8.ofNat n.val] ∧ UInt8.ofNat n.val ≠ 37) ∨ (desc_Escape.one (UInt8.ofNat n.val) = [37, desc_Escape.HEX.getD (n.val / 16) 0, desc_Escape.HEX.getD (n.val % 16) 0] ∧ desc_plainly.val (desc_Escape.HEX.getD (n.val / 16) 0) (desc_Escape.HEX.getD (n.val % 16) 0) = UInt8.ofNat n.val) := by decide +kernel
  intro n
  rcases h n with h | ⟨h1, h2⟩
  · exact .inl h
  · exact .inr ⟨_, _, h1, h2⟩
theorem one_back' (c : UInt8) : (desc_Escape.one c = [c] ∧ c ≠ 37) ∨ (∃ a b, desc_Escape.one c = [37, a, b] ∧ desc_plainly.val a b = c) := by
  have h := one_back ⟨c.toNat, c.toNat_lt⟩
  simpa using h
theorem one_good (c : UInt8) : ∀ b ∈ desc_Escape.one c, b.toNat ≠ 44 ∧ b.toNat ≠ 61 ∧ b.toNat ≠ 124 ∧ 32 < b.toNat ∧ b.toNat ≤ 126 := by
  have h : ∀ n : Fin 256, ∀ b ∈ desc_Escape.one (UInt8.ofNat n.val), b.toNat ≠ 44 ∧ b.toNat ≠ 61 ∧ b.toNat ≠ 124 ∧ 32 < b.toNat ∧ b.toNat ≤ 126 := by decide +kernel
  have := h ⟨c.toNat, c.toNat_lt⟩
  simpa using this
theorem all_cons (c : UInt8) (l : List UInt8) : desc_Escape.all (c :: l) = desc_Escape.one c ++ desc_Escape.all l := rfl
theorem all_good (l : List UInt8) : ∀ b ∈ desc_Escape.all l, b.toNat ≠ 44 ∧ b.toNat ≠ 61 ∧ b.toNat ≠ 124 ∧ 32 < b.toNat ∧ b.toNat ≤ 126 := by
  intro b hb
  obtain ⟨c, _, hc⟩ := List.mem_flatMap.1 hb
  exact one_good c b hc
/-- A text escaped, made plain, is that text. -/
theorem un (l : List UInt8) : desc_plainly.all (desc_Escape.all l) = l := by
  induction l with
  | nil => exact desc_plainly.all_nil
  | cons c l ih =>
    rw [all_cons]
    rcases one_back' c with ⟨h1, h2⟩ | ⟨a, b, h1, h2⟩
    · rw [h1]
      show desc_plainly.all (c :: desc_Escape.all l) = _
      rw [desc_plainly.all_plain c _ (fun h => h2 h.1), ih]
    · rw [h1]
      show desc_plainly.all (37 :: a :: b :: desc_Escape.all l) = _
      rw [desc_plainly.all_esc, ih, h2]
theorem esc_eq (a b : List UInt8) : (desc_Escape.all a = desc_Escape.all b) ↔ a = b := ⟨fun h => by rw [← un a, h, un], fun h => by rw [h]⟩
theorem bt_mem (s : ByteArray) (i : Nat) (h : i < s.size) : ∃ b ∈ s.data.toList, bt s (i : Int) = (b.toNat : Int) := by
  refine ⟨s[i], ?_, ?_⟩
  · exact Array.mem_toList_iff.2 (Array.getElem_mem h)
  · unfold bt; simp only [Int.toNat_natCast]; rw [dif_pos h]
theorem esc_scan (K : Nat) (hK : ∀ k, K ≤ k → turncocklaw6_awake.f k = some true) (x : ByteArray) (hx : ∀ b ∈ x.data.toList, b.toNat ≠ 44 ∧ b.toNat ≠ 61 ∧ b.toNat ≠ 124 ∧ 32 < b.toNat ∧ b.toNat ≤ 126) (hn : x.size ≤ 9000000000000000000) (d : Nat) :
    ∀ i : Nat, i + d = x.size → ∀ k, K + d < k → turncocklaw6_DescEscape.l0 k x (i : Int) = some true := by
  induction d with
  | zero =>
    intro i hi k hk
    obtain ⟨k, rfl⟩ : ∃ m, k = m + 1 := ⟨k - 1, by omega⟩
    simp only [turncocklaw6_DescEscape.l0]
    rw [if_neg (by omega), hK k (by omega)]
    rfl
  | succ d ih =>
    intro i hi k hk
    obtain ⟨k, rfl⟩ : ∃ m, k = m + 1 := ⟨k - 1, by omega⟩
    obtain ⟨b, hb, e⟩ := bt_mem x i (by omega)
    obtain ⟨g1, g2, g3, g4, g5⟩ := hx b hb
    simp only [turncocklaw6_DescEscape.l0]
    rw [if_pos (by omega), if_pos (by omega), e, if_neg (by omega), if_neg (by omega), if_neg (by omega), if_neg (by omega), if_neg (by omega), step1 (show i < x.size by omega) hn]
    exact ih (i + 1) (by omega) k (by omega)
theorem esc_f (s : ByteArray) (h : s.size ≤ 1099511627776) : desc_Escape.f s = some ⟨(desc_Escape.all s.data.toList).toArray⟩ := by unfold desc_Escape.f; rw [if_pos h]
theorem resc_f (s : ByteArray) (h : s.size ≤ 1099511627776) : turncockref1_Escape.f s = some ⟨(desc_Escape.all s.data.toList).toArray⟩ := by unfold turncockref1_Escape.f; rw [if_pos h]
theorem mkList (l : List UInt8) : (⟨l.toArray⟩ : ByteArray).toList = l := by rw [ByteArray.toList_eq]
theorem DescEscape : turncocklaw6_DescEscape.Pure := by
  intro a b ha hb
  obtain ⟨K, hK⟩ := awake_ev
  by_cases h1 : (a.size : Int) > 2000
  · refine ⟨K + 1, ?_⟩
    unfold turncocklaw6_DescEscape.f
    rw [if_pos h1]
    simp only [turncocklaw6_DescEscape.j0]
    rw [hK K (Nat.le_refl _)]
    rfl
  by_cases h2 : (b.size : Int) > 2000
  · refine ⟨K + 1, ?_⟩
    unfold turncocklaw6_DescEscape.f
    rw [if_neg h1, decide_eq_true h2]
    simp only [turncocklaw6_DescEscape.j0]
    rw [hK K (Nat.le_refl _)]
    rfl
  have hl := desc_Escape.all_len a.data.toList
  have hz : (⟨(desc_Escape.all a.data.toList).toArray⟩ : ByteArray).size = (desc_Escape.all a.data.toList).length := by simp [ByteArray.size]
  have hal : a.data.toList.length = a.size := by simp
  refine ⟨K + (desc_Escape.all a.data.toList).length + 3, ?_⟩
  unfold turncocklaw6_DescEscape.f
  rw [if_neg h1, decide_eq_false h2]
  simp only [turncocklaw6_DescEscape.j0]
  rw [if_neg (by decide), esc_f a (by omega), resc_f a (by omega), esc_f b (by omega)]
  simp only [Option.bind_some, mkList, if_true]
  have e : (desc_Escape.all a.data.toList == desc_Escape.all b.data.toList) = (a.toList == b.toList) := by
    rw [Bool.eq_iff_iff, beq_iff_eq, beq_iff_eq, esc_eq, ByteArray.toList_eq, ByteArray.toList_eq]
  rw [e, bne_self_eq_false]
  simp only [turncocklaw6_DescEscape.j1]
  rw [if_neg (by decide)]
  exact esc_scan K hK _ (fun b hb => all_good _ b hb) (by omega) (desc_Escape.all a.data.toList).length 0 (by rw [hz]; omega) _ (by omega)

end Go.Proofs.YtpemmaffbcbcjaaDoor.Pure
