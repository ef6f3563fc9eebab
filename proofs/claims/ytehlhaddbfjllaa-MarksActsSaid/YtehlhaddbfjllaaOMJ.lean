/- Maps of texts to numbers, and what counts in them: a part of the proof. -/
import Derived.Test.YtehlhaddbfjllaaPMarksActsx3
import Derived.Test.YtehlhaddbfjllaaOMI
import Derived.Test.YtehlhaddbfjllaaOMK
namespace Go.Proofs.Ytehlhaddbfjllaa.Mp
open Go.RowKit Go.Sort Go.Proofs.YtehlhaddbfjllaaW.PrintWords Go.Proofs.YtehlhaddbfjllaaW.PrintLast Go.Proofs.YtehlhaddbfjllaaW.PrintMore Go.Proofs.Ytehlhaddbfjllaa.PMarksActs
set_option maxRecDepth 100000
set_option linter.unusedVariables false
/-! The document's marks: the plain laws of what the print has. -/
theorem rd75 (l : List S75) (i : Nat) : rd_T75 l (i : Int) = l.getD i z75 := by unfold rd_T75; rw [Int.toNat_natCast]
theorem w64 {n : Int} (h0 : 0 ≤ n) (h : n ≤ 1000000) : wrap64 n = n := by unfold wrap64; omega
theorem find_l0 (l : List S75) (hN : l.length ≤ 1000000) (key : ByteArray) : ∀ d i k, l.length = i + d → d < k → (∀ q, q < i → (l.getD q z75).f0 ≠ key) → ∃ r, turncockref20_find.l0 k l key (i : Int) = some r ∧ ((r = -1 ∧ ∀ q, q < l.length → (l.getD q z75).f0 ≠ key) ∨ ∃ j : Nat, r = (j : Int) ∧ j < l.length ∧ (l.getD j z75).f0 = key)
  | 0, i, k, hd, hk, hq => by
    obtain ⟨k, rfl⟩ : ∃ m, k = m + 1 := ⟨k - 1, by omega⟩
    unfold turncockref20_find.l0
    rw [if_neg (by omega)]
    exact ⟨_, rfl, .inl ⟨rfl, fun q h => hq q (by omega)⟩⟩
  | d + 1, i, k, hd, hk, hq => by
    obtain ⟨k, rfl⟩ : ∃ m, k = m + 1 := ⟨k - 1, by omega⟩
    unfold turncockref20_find.l0
    rw [if_pos (by omega), if_pos (by omega), rd75]
    by_cases h : (l.getD i z75).f0 = key
    · rw [if_pos (by rw [h])]
      exact ⟨_, rfl, .inr ⟨i, rfl, by omega, h⟩⟩
    · rw [if_neg (fun e => h (by rw [ByteArray.toList_eq, ByteArray.toList_eq] at e; exact ByteArray.ext (Array.toList_inj.1 e))), w64 (by omega) (by omega)]
      have e : ((i : Int) + 1) = ((i + 1 : Nat) : Int) := by omega
      rw [e]
      exact find_l0 l hN key d (i + 1) k (by omega) (by omega) (fun q hq2 => by
        rcases Nat.lt_or_ge q i with h3 | h3
        · exact hq q h3
        · rw [show q = i by omega]; exact h)
theorem find_f (l : List S75) (hN : l.length ≤ 1000000) (key : ByteArray) : ∃ r, turncockref20_find.f (l.length + 1) l key = some r ∧ ((r = -1 ∧ ∀ q, q < l.length → (l.getD q z75).f0 ≠ key) ∨ ∃ j : Nat, r = (j : Int) ∧ j < l.length ∧ (l.getD j z75).f0 = key) :=
  find_l0 l hN key l.length 0 (l.length + 1) (by omega) (by omega) (fun q h => absurd h (Nat.not_lt_zero q))
theorem drop_f (l : List S75) (hN : l.length ≤ 1000000) (i : Nat) (hi : i < l.length) : turncockref20_drop.f l (i : Int) = some (l.take i ++ l.drop (i + 1)) := by
  unfold turncockref20_drop.f
  have h1 : (l.take i).length ≤ 1000000 := by rw [List.length_take]; omega
  have h2 : (l.drop (i + 1)).length ≤ 1000000 := by rw [List.length_drop]; omega
  have e : wrap64 ((i : Int) + 1) = ((i + 1 : Nat) : Int) := by rw [w64 (by omega) (by omega)]; omega
  rw [e]
  simp only [Option.bind_some, Int.toNat_natCast, List.nil_append, List.length_nil, Nat.zero_add]
  rw [if_pos (by omega), if_pos (by omega), if_pos (by omega), if_pos (by omega), if_pos (by omega), if_pos (by omega)]
theorem only_l0 (l : List S75) (hN : l.length ≤ 1000000) (now : Int) : ∀ d i k (o : List S75), l.length = i + d → d < k → o = (l.take i).filter (fun x => decide (now < x.f2)) → turncockref20_only.l0 k l now o (i : Int) = some (l.filter fun x => decide (now < x.f2))
  | 0, i, k, o, hd, hk, ho => by
    obtain ⟨k, rfl⟩ : ∃ m, k = m + 1 := ⟨k - 1, by omega⟩
    unfold turncockref20_only.l0
    rw [if_neg (by omega), ho, List.take_of_length_le (by omega)]
  | d + 1, i, k, o, hd, hk, ho => by
    obtain ⟨k, rfl⟩ : ∃ m, k = m + 1 := ⟨k - 1, by omega⟩
    have hi : i < l.length := by omega
    have hol : o.length ≤ 1000000 := by rw [ho]; have h1 := List.length_filter_le (fun x : S75 => decide (now < x.f2)) (l.take i); rw [List.length_take] at h1; omega
    have eg : l.getD i z75 = l[i] := by rw [List.getD_eq_getElem?_getD, List.getElem?_eq_getElem hi]; rfl
    have ht : (l.take (i + 1)).filter (fun x => decide (now < x.f2)) = (l.take i).filter (fun x => decide (now < x.f2)) ++ [l[i]].filter (fun x => decide (now < x.f2)) := by
      rw [List.take_add_one, List.getElem?_eq_getElem hi, List.filter_append]; rfl
    have e : wrap64 ((i : Int) + 1) = ((i + 1 : Nat) : Int) := by rw [w64 (by omega) (by omega)]; omega
    unfold turncockref20_only.l0
    rw [if_pos (by omega), if_pos (by omega), rd75, eg, e]
    by_cases h : now < (l[i]).f2
    · rw [if_pos h, if_pos (by omega)]
      refine only_l0 l hN now d (i + 1) k _ (by omega) (by omega) ?_
      rw [ht, ← ho, List.filter_cons, if_pos (decide_eq_true h)]
      rfl
    · rw [if_neg h]
      refine only_l0 l hN now d (i + 1) k _ (by omega) (by omega) ?_
      rw [ht, ← ho, List.filter_cons, if_neg (by simpa using h)]
      simp
theorem only_f (l : List S75) (hN : l.length ≤ 1000000) (now : Int) : turncockref20_only.f (l.length + 1) l now = some (l.filter fun x => decide (now < x.f2)) :=
  only_l0 l hN now l.length 0 (l.length + 1) [] (by omega) (by omega) rfl
def befP (x y : S75) : Prop := x.f2 < y.f2 ∨ (x.f2 = y.f2 ∧ x.f0.data.toList < y.f0.data.toList)
theorem befP_trans {x y z : S75} (h : befP x y) (k : befP y z) : befP x z := by
  rcases h with h | ⟨h1, h2⟩ <;> rcases k with k | ⟨k1, k2⟩
  · exact .inl (by omega)
  · exact .inl (by omega)
  · exact .inl (by omega)
  · exact .inr ⟨h1.trans k1, List.lt_trans h2 k2⟩
theorem befP_irrefl (x : S75) : ¬ befP x x := fun h => by
  rcases h with h | ⟨_, h⟩
  · omega
  · exact List.lt_irrefl _ h
theorem bef_f (x y : S75) : ∃ b, turncockref20_before.f x.f0 x.f1 x.f2 y.f0 y.f1 y.f2 = some b ∧ (b = true ↔ befP x y) := by
  unfold turncockref20_before.f befP
  by_cases h : x.f2 < y.f2
  · rw [if_pos h]
    exact ⟨true, rfl, by simp [h]⟩
  · rw [if_neg h]
    by_cases h2 : x.f2 = y.f2
    · rw [if_pos h2]
      exact ⟨_, rfl, by rw [bless]; simp [h2]⟩
    · rw [if_neg h2]
      exact ⟨false, rfl, by simp [h, h2]⟩
theorem first_l0 (l : List S75) (hN : l.length ≤ 1000000) : ∀ d i k (m : Nat), l.length = i + d → d < k → m < i → (∀ q, q < i → ¬ befP (l.getD q z75) (l.getD m z75)) → ∃ j : Nat, turncockref20_first.l0 k l (m : Int) (i : Int) = some (j : Int) ∧ j < l.length ∧ ∀ q, q < l.length → ¬ befP (l.getD q z75) (l.getD j z75)
  | 0, i, k, m, hd, hk, hm, hq => by
    obtain ⟨k, rfl⟩ : ∃ m, k = m + 1 := ⟨k - 1, by omega⟩
    unfold turncockref20_first.l0
    rw [if_neg (by omega)]
    exact ⟨m, rfl, by omega, fun q h => hq q (by omega)⟩
  | d + 1, i, k, m, hd, hk, hm, hq => by
    obtain ⟨k, rfl⟩ : ∃ m, k = m + 1 := ⟨k - 1, by omega⟩
    have e : wrap64 ((i : Int) + 1) = ((i + 1 : Nat) : Int) := by rw [w64 (by omega) (by omega)]; omega
    obtain ⟨b, hb, hbi⟩ := bef_f (l.getD i z75) (l.getD m z75)
    unfold turncockref20_first.l0
    rw [if_pos (by omega), if_neg (by omega), if_pos (by omega), if_pos (by omega), if_pos (by omega), rd75, rd75, hb, e, Option.bind_some]
    cases b with
    | true =>
      have hlt := hbi.1 rfl
      rw [if_pos rfl]
      refine first_l0 l hN d (i + 1) k i (by omega) (by omega) (by omega) (fun q h => ?_)
      rcases Nat.lt_or_ge q i with h3 | h3
      · exact fun hh => hq q h3 (befP_trans hh hlt)
      · rw [show q = i by omega]; exact befP_irrefl _
    | false =>
      have hlt : ¬ befP (l.getD i z75) (l.getD m z75) := fun h => by have := hbi.2 h; cases this
      rw [if_neg (by decide)]
      refine first_l0 l hN d (i + 1) k m (by omega) (by omega) (by omega) (fun q h => ?_)
      rcases Nat.lt_or_ge q i with h3 | h3
      · exact hq q h3
      · rw [show q = i by omega]; exact hlt
theorem first_f (l : List S75) (hN : l.length ≤ 1000000) (h0 : 0 < l.length) : ∃ j : Nat, turncockref20_first.f (l.length + 1) l = some (j : Int) ∧ j < l.length ∧ ∀ q, q < l.length → ¬ befP (l.getD q z75) (l.getD j z75) := by
  unfold turncockref20_first.f
  unfold turncockref20_first.l0
  rw [if_pos (by omega), if_pos (by omega)]
  have e : wrap64 ((0 : Int) + 1) = ((0 + 1 : Nat) : Int) := by rw [w64 (by omega) (by omega)]; rfl
  rw [e]
  exact first_l0 l hN (l.length - 1) 1 l.length 0 (by omega) (by omega) (by omega) (fun q h => by rw [show q = 0 by omega]; exact befP_irrefl _)
end Go.Proofs.Ytehlhaddbfjllaa.Mp
