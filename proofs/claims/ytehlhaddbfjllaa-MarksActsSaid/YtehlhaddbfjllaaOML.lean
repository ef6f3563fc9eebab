/- Maps of texts to numbers, and what counts in them: a part of the proof. -/
import Derived.Test.YtehlhaddbfjllaaOMJ
namespace Go.Proofs.Ytehlhaddbfjllaa.Mp
open Go.RowKit Go.Sort Go.Proofs.YtehlhaddbfjllaaW.PrintWords Go.Proofs.YtehlhaddbfjllaaW.PrintLast Go.Proofs.YtehlhaddbfjllaaW.PrintMore Go.Proofs.Ytehlhaddbfjllaa.PMarksActs
set_option maxRecDepth 100000
set_option linter.unusedVariables false
/-! The document's marks and Go's: one Put on both sides. -/
def prM (L : List S75) : List KV := L.map fun x => (x.f0, x.f2)
def cutAt (L : List S75) (j : Nat) : List S75 := L.take j ++ L.drop (j + 1)
def dgoR (most : Nat) (L : List S75) (key : ByteArray) (now : Int) (L1 : List S75) : Prop :=
  (∃ j, j < L.length ∧ (L.getD j z75).f0 = key ∧ L1 = cutAt L j) ∨
  ((∀ q, q < L.length → (L.getD q z75).f0 ≠ key) ∧ ((L.length < most ∧ L1 = L) ∨ (most ≤ L.length ∧
    (((L.filter fun x => decide (now < x.f2)).length < most ∧ L1 = L.filter fun x => decide (now < x.f2)) ∨
     (most ≤ (L.filter fun x => decide (now < x.f2)).length ∧ ∃ j, j < (L.filter fun x => decide (now < x.f2)).length ∧ (∀ q, q < (L.filter fun x => decide (now < x.f2)).length → ¬ befP ((L.filter fun x => decide (now < x.f2)).getD q z75) ((L.filter fun x => decide (now < x.f2)).getD j z75)) ∧ L1 = cutAt (L.filter fun x => decide (now < x.f2)) j)))))
def dputR (most : Nat) (L : List S75) (key : ByteArray) (u n : Int) (L' : List S75) : Prop :=
  ((u ≤ n ∨ most = 0) ∧ L' = L) ∨ (n < u ∧ 0 < most ∧ ∃ L1, dgoR most L key n L1 ∧ L' = L1 ++ [⟨key, 0, u⟩])
theorem prM_len (L : List S75) : (prM L).length = L.length := List.length_map _
theorem prM_only (L : List S75) (now : Int) : onlyK (prM L) now = prM (L.filter fun x => decide (now < x.f2)) := by
  unfold onlyK prM
  rw [List.filter_map]
  rfl
theorem cut_pr {L : List S75} {j : Nat} (hj : j < L.length) (hn : ND (prM L)) : prM (cutAt L j) = dropK (prM L) (L.getD j z75).f0 := by
  have eg : L.getD j z75 = L[j] := by rw [List.getD_eq_getElem?_getD, List.getElem?_eq_getElem hj]; rfl
  have e1 : L = L.take j ++ L[j] :: L.drop (j + 1) := by rw [List.getElem_cons_drop, List.take_append_drop]
  rw [eg]
  unfold cutAt
  generalize L[j] = x at *
  generalize L.take j = P at *
  generalize L.drop (j + 1) = S at *
  subst e1
  have h1 : prM (P ++ x :: S) = prM P ++ (x.f0, x.f2) :: prM S := by unfold prM; rw [List.map_append, List.map_cons]
  have h2 : prM (P ++ S) = prM P ++ prM S := by unfold prM; rw [List.map_append]
  rw [h1] at hn
  rw [h1, h2]
  unfold ND at hn
  rw [List.map_append, List.map_cons] at hn
  obtain ⟨_, h3, h4⟩ := List.nodup_append.1 hn
  have hP : (prM P).filter (fun c => decide (c.1 ≠ x.f0)) = prM P := List.filter_eq_self.2 fun c hc => decide_eq_true (h4 _ (List.mem_map.2 ⟨c, hc, rfl⟩) _ List.mem_cons_self)
  have hS : (prM S).filter (fun c => decide (c.1 ≠ x.f0)) = prM S := List.filter_eq_self.2 fun c hc => decide_eq_true (fun e => (List.nodup_cons.1 h3).1 (e ▸ List.mem_map.2 ⟨c, hc, rfl⟩))
  unfold dropK
  rw [List.filter_append, List.filter_cons, if_neg (by simp), hP, hS]
theorem has_pr {K : List KV} {L : List S75} (hp : K.Perm (prM L)) (key : ByteArray) : hasK K key = true ↔ ∃ q, q < L.length ∧ (L.getD q z75).f0 = key := by
  rw [hasK_perm hp, hasK_iff]
  constructor
  · rintro ⟨c, hc, e⟩
    obtain ⟨x, hx, rfl⟩ := List.mem_map.1 hc
    obtain ⟨q, hq, rfl⟩ := List.getElem_of_mem hx
    exact ⟨q, hq, by rw [List.getD_eq_getElem?_getD, List.getElem?_eq_getElem hq]; exact e⟩
  · rintro ⟨q, hq, e⟩
    refine ⟨((L.getD q z75).f0, (L.getD q z75).f2), List.mem_map.2 ⟨L.getD q z75, ?_, rfl⟩, e⟩
    rw [List.getD_eq_getElem?_getD, List.getElem?_eq_getElem hq]
    exact List.getElem_mem hq
theorem get_pr {K : List KV} {L : List S75} (hn : ND K) (hp : K.Perm (prM L)) {q : Nat} (hq : q < L.length) : getK K (L.getD q z75).f0 = (L.getD q z75).f2 := by
  rw [getK_perm hn hp]
  refine getK_of (hn.perm hp) (c := ((L.getD q z75).f0, (L.getD q z75).f2)) (List.mem_map.2 ⟨L.getD q z75, ?_, rfl⟩)
  rw [List.getD_eq_getElem?_getD, List.getElem?_eq_getElem hq]
  exact List.getElem_mem hq
theorem bef_lt {K : List KV} {L : List S75} (hn : ND K) (hp : K.Perm (prM L)) {a b : Nat} (ha : a < L.length) (hb : b < L.length) : befP (L.getD a z75) (L.getD b z75) ↔ ltM K (L.getD a z75).f0 (L.getD b z75).f0 := by
  unfold befP ltM
  rw [get_pr hn hp ha, get_pr hn hp hb]
/-- Two that let one go for a key let the same go. -/
theorem go_law {most : Nat} {K K1 : List KV} {L L1 : List S75} {key : ByteArray} {now : Int} (hn : ND K) (hp : K.Perm (prM L)) (hg : goR most K key now K1) (hd : dgoR most L key now L1) : (dropK K1 key).Perm (prM L1) := by
  have hlen : K.length = L.length := by rw [hp.length_eq, prM_len]
  rcases hd with ⟨j, hj, hjk, rfl⟩ | ⟨hno, hd⟩
  · have hh : hasK K key = true := (has_pr hp key).2 ⟨j, hj, hjk⟩
    rcases hg with ⟨_, rfl⟩ | ⟨h2, _⟩
    · rw [cut_pr hj (hn.perm hp), hjk]
      exact hp.filter _
    · rw [hh] at h2; cases h2
  have hh : hasK K key = false := by
    cases e : hasK K key with
    | false => rfl
    | true =>
      obtain ⟨q, hq, e2⟩ := (has_pr hp key).1 e
      exact absurd e2 (hno q hq)
  have hp2 : (onlyK K now).Perm (prM (L.filter fun x => decide (now < x.f2))) := by rw [← prM_only]; exact hp.filter _
  have hl2 : (onlyK K now).length = (L.filter fun x => decide (now < x.f2)).length := by rw [hp2.length_eq, prM_len]
  rcases hd with ⟨h1, rfl⟩ | ⟨h1, hd⟩
  · rcases hg with ⟨_, rfl⟩ | ⟨_, h3, _⟩
    · rw [dropK_no hh]; exact hp
    · omega
  rcases hg with ⟨h3, _⟩ | ⟨_, _, hg⟩
  · rcases h3 with h3 | h3
    · rw [hh] at h3; cases h3
    · omega
  have hh2 := hasK_only hh now
  rcases hd with ⟨h4, rfl⟩ | ⟨h4, j, hj, hmin, rfl⟩
  · rcases hg with ⟨_, rfl⟩ | ⟨h5, _⟩
    · rw [dropK_no hh2]; exact hp2
    · omega
  · rcases hg with ⟨h5, _⟩ | ⟨_, f, hf, hfm, rfl⟩
    · omega
    · have hn2 := onlyK_nd hn now
      generalize onlyK K now = K2 at *
      generalize (L.filter fun x => decide (now < x.f2)) = L2 at *
      obtain ⟨c, hc, e⟩ := List.mem_map.1 hf
      obtain ⟨x, hx, rfl⟩ := List.mem_map.1 (hp2.mem_iff.1 hc)
      obtain ⟨q, hq, rfl⟩ := List.getElem_of_mem hx
      have eq1 : L2.getD q z75 = L2[q] := by rw [List.getD_eq_getElem?_getD, List.getElem?_eq_getElem hq]; rfl
      have e : (L2.getD q z75).f0 = f := by rw [eq1]; exact e
      have h1 : ¬ ltM K2 (L2.getD j z75).f0 f := hfm _ (by
        have : ((L2.getD j z75).f0, (L2.getD j z75).f2) ∈ K2 := hp2.mem_iff.2 (List.mem_map.2 ⟨L2.getD j z75, by rw [List.getD_eq_getElem?_getD, List.getElem?_eq_getElem hj]; exact List.getElem_mem hj, rfl⟩)
        exact List.mem_map.2 ⟨_, this, rfl⟩)
      have h2 : ¬ ltM K2 f (L2.getD j z75).f0 := by rw [← e]; exact fun h => hmin q hq ((bef_lt hn2 hp2 hq hj).2 h)
      have hfe := ltM_total h2 h1
      rw [cut_pr hj (hn2.perm hp2), ← hfe]
      have hh3 : hasK (dropK K2 f) key = false := by
        cases e : hasK (dropK K2 f) key with
        | false => rfl
        | true =>
          obtain ⟨c, hc, e2⟩ := (hasK_iff _ _).1 e
          have := (hasK_iff K2 key).2 ⟨c, (mem_dropK.1 hc).1, e2⟩
          rw [hh2] at this; cases this
      rw [dropK_no hh3]
      exact hp2.filter _
theorem put_law {most : Nat} {K K' : List KV} {L L' : List S75} {key : ByteArray} {u n : Int} (hn : ND K) (hp : K.Perm (prM L)) (hg : putR most K key u n K') (hd : dputR most L key u n L') : K'.Perm (prM L') := by
  rcases hg with ⟨h1, rfl⟩ | ⟨h1, h2, K1, hg, rfl⟩ <;> rcases hd with ⟨k1, rfl⟩ | ⟨k1, k2, L1, hd, rfl⟩
  · exact hp
  · omega
  · omega
  · have h := go_law hn hp hg hd
    have e : prM (L1 ++ [⟨key, 0, u⟩]) = prM L1 ++ [(key, u)] := by unfold prM; rw [List.map_append]; rfl
    rw [e]
    exact (h.cons _).trans (List.perm_append_comm (l₁ := [(key, u)]) (l₂ := prM L1))
end Go.Proofs.Ytehlhaddbfjllaa.Mp
