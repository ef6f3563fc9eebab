/- Maps of texts to numbers, and what counts in them: a part of the proof. -/
import Derived.Test.YtehlhaddbfjllaaOSH
import Derived.Test.YtehlhaddbfjllaaOSI
namespace Go.Proofs.Ytehlhaddbfjllaa.Mp
open Go.RowKit Go.Sort Go.Proofs.YtehlhaddbfjllaaW.PrintWords Go.Proofs.YtehlhaddbfjllaaW.PrintLast Go.Proofs.YtehlhaddbfjllaaW.PrintMore Go.Proofs.Ytehlhaddbfjllaa.PStatActs
set_option maxRecDepth 100000
set_option linter.unusedVariables false
/-! The document's counts: a row of names that rise. -/
def prL (L : List S79) : List KV := L.map fun x => (x.f0, x.f1)
def nmL (L : List S79) : List ByteArray := L.map (·.f0)
def ltB (a b : ByteArray) : Prop := a.data.toList < b.data.toList
def rise (L : List S79) : Prop := (nmL L).Pairwise ltB
theorem ltB_irrefl (a : ByteArray) : ¬ ltB a a := List.lt_irrefl _
theorem ltB_trans {a b c : ByteArray} (h : ltB a b) (k : ltB b c) : ltB a c := List.lt_trans h k
theorem ltB_total {a b : ByteArray} (h : ¬ ltB a b) (k : a ≠ b) : ltB b a := by
  have h2 : b.data.toList ≤ a.data.toList := h
  rcases List.le_iff_lt_or_eq.1 h2 with h3 | h3
  · exact h3
  · exact absurd (ByteArray.ext (Array.toList_inj.1 h3.symm)) k
theorem rise_nd {L : List S79} (h : rise L) : (nmL L).Nodup := List.Pairwise.imp (fun {a b} (hab : ltB a b) (e : a = b) => ltB_irrefl b (e ▸ hab)) h
theorem prL_fst (L : List S79) : (prL L).map (·.1) = nmL L := by unfold prL nmL; rw [List.map_map]; rfl
theorem rise_ND {L : List S79} (h : rise L) : ND (prL L) := by unfold ND; rw [prL_fst]; exact rise_nd h
theorem getK_pr {L : List S79} (h : rise L) {x : S79} (hx : x ∈ L) : getK (prL L) x.f0 = x.f1 := getK_of (rise_ND h) (c := (x.f0, x.f1)) (List.mem_map.2 ⟨x, hx, rfl⟩)
theorem dropK_none {K : List KV} {k : ByteArray} (h : ∀ c ∈ K, c.1 ≠ k) : dropK K k = K := by
  unfold dropK
  rw [List.filter_eq_self]
  exact fun c hc => decide_eq_true (h c hc)
theorem getK_none {K : List KV} {k : ByteArray} (h : ∀ c ∈ K, c.1 ≠ k) : getK K k = 0 := getK_no (by
  unfold hasK
  rw [List.any_eq_false]
  exact fun c hc => by simpa using h c hc)
theorem pr_mem {L : List S79} {k : ByteArray} (h : ∀ x ∈ L, x.f0 ≠ k) : ∀ c ∈ prL L, c.1 ≠ k := by
  intro c hc
  obtain ⟨x, hx, rfl⟩ := List.mem_map.1 hc
  exact h x hx
/-- Where the name stands. -/
theorem hit_law {P S : List S79} {x : S79} {n : Int} (hr : rise (P ++ x :: S)) (hn : 1 ≤ n) : (addK (prL (P ++ x :: S)) x.f0 n).Perm (prL (P ++ ⟨x.f0, nadd x.f1 n⟩ :: S)) ∧ rise (P ++ ⟨x.f0, nadd x.f1 n⟩ :: S) := by
  have hg := getK_pr hr (List.mem_append_right P (List.mem_cons_self : x ∈ x :: S))
  have hnd := rise_nd hr
  constructor
  · unfold addK
    rw [if_pos hn, hg]
    have e1 : prL (P ++ x :: S) = prL P ++ (x.f0, x.f1) :: prL S := by unfold prL; rw [List.map_append, List.map_cons]
    have e2 : prL (P ++ ⟨x.f0, nadd x.f1 n⟩ :: S) = prL P ++ (x.f0, nadd x.f1 n) :: prL S := by unfold prL; rw [List.map_append, List.map_cons]
    unfold nmL at hnd
    rw [List.map_append, List.map_cons] at hnd
    obtain ⟨_, h2, h3⟩ := List.nodup_append.1 hnd
    have hP : ∀ y ∈ P, y.f0 ≠ x.f0 := fun y hy => h3 _ (List.mem_map.2 ⟨y, hy, rfl⟩) _ List.mem_cons_self
    have hS : ∀ y ∈ S, y.f0 ≠ x.f0 := fun y hy e => (List.nodup_cons.1 h2).1 (e ▸ List.mem_map.2 ⟨y, hy, rfl⟩)
    have e3 : dropK (prL P ++ (x.f0, x.f1) :: prL S) x.f0 = prL P ++ prL S := by
      have : dropK (prL P ++ (x.f0, x.f1) :: prL S) x.f0 = dropK (prL P) x.f0 ++ dropK ((x.f0, x.f1) :: prL S) x.f0 := by unfold dropK; rw [List.filter_append]
      rw [this, dropK_none (pr_mem hP), dropK_cons_eq rfl, dropK_none (pr_mem hS)]
    rw [e1, e2, e3]
    exact List.perm_middle.symm
  · have e : nmL (P ++ ⟨x.f0, nadd x.f1 n⟩ :: S) = nmL (P ++ x :: S) := by unfold nmL; rw [List.map_append, List.map_append, List.map_cons, List.map_cons]
    unfold rise
    rw [e]
    exact hr
/-- Where it does not. -/
theorem miss_law {P S : List S79} {k : ByteArray} {n : Int} (hr : rise (P ++ S)) (hP : ∀ x ∈ P, ltB x.f0 k) (hS : ∀ x ∈ S.head?, ¬ ltB x.f0 k ∧ x.f0 ≠ k) (hn : 1 ≤ n) : (addK (prL (P ++ S)) k n).Perm (prL (P ++ ⟨k, hold n⟩ :: S)) ∧ rise (P ++ ⟨k, hold n⟩ :: S) := by
  have hr' := hr
  unfold rise nmL at hr'
  rw [List.map_append] at hr'
  obtain ⟨r1, r2, r3⟩ := List.pairwise_append.1 hr'
  have hS2 : ∀ x ∈ S, ltB k x.f0 := by
    cases S with
    | nil => intro x hx; cases hx
    | cons y t =>
      have hy := hS y rfl
      have h1 := ltB_total hy.1 hy.2
      intro x hx
      rcases List.mem_cons.1 hx with rfl | hx
      · exact h1
      · rw [List.map_cons] at r2
        exact ltB_trans h1 ((List.pairwise_cons.1 r2).1 _ (List.mem_map.2 ⟨x, hx, rfl⟩))
  have hne : ∀ x ∈ P ++ S, x.f0 ≠ k := by
    intro x hx e
    rcases List.mem_append.1 hx with hx | hx
    · exact ltB_irrefl k (e ▸ hP x hx)
    · exact ltB_irrefl k (e ▸ hS2 x hx)
  constructor
  · unfold addK
    have e0 : nadd 0 n = hold n := by
      have h0 : hold 0 = 0 := by decide
      have h2 := hold_rng n
      unfold nadd
      rw [h0]
      split <;> omega
    rw [if_pos hn, getK_none (pr_mem hne), dropK_none (pr_mem hne), e0]
    have e1 : prL (P ++ S) = prL P ++ prL S := by unfold prL; rw [List.map_append]
    have e2 : prL (P ++ ⟨k, hold n⟩ :: S) = prL P ++ (k, hold n) :: prL S := by unfold prL; rw [List.map_append, List.map_cons]
    rw [e1, e2]
    exact List.perm_middle.symm
  · unfold rise nmL
    rw [List.map_append, List.map_cons]
    refine List.pairwise_append.2 ⟨r1, List.pairwise_cons.2 ⟨fun y hy => ?_, r2⟩, fun a ha b hb => ?_⟩
    · obtain ⟨x, hx, rfl⟩ := List.mem_map.1 hy
      exact hS2 x hx
    · rcases List.mem_cons.1 hb with rfl | hb
      · obtain ⟨x, hx, rfl⟩ := List.mem_map.1 ha
        exact hP x hx
      · exact r3 a ha b hb
/-- The list of names that begin so, and its text. -/
theorem list_law {K : List KV} {L : List S79} (hn : ND K) (hp : K.Perm (prL L)) (hr : rise L) (q : ByteArray) : listK K q = L.filter fun x => bgn x.f0 q := by
  have h1 : sortK K = nmL L := sortK_of (by have := hp.map (·.1); rw [prL_fst] at this; exact this) (List.Pairwise.imp (fun {a b} h => by unfold leK; exact List.le_of_lt h) hr)
  rw [listK_of h1]
  unfold nmL
  rw [List.filter_map, List.map_map]
  have : ∀ x ∈ L.filter ((fun k => bgn k q) ∘ fun x => x.f0), ((fun k => (⟨k, getK K k⟩ : S79)) ∘ fun x : S79 => x.f0) x = id x := fun x hx => by
    have := getK_pr hr (List.mem_filter.1 hx).1
    show (⟨x.f0, getK K x.f0⟩ : S79) = x
    rw [getK_perm hn hp, this]
  rw [List.map_congr_left this, List.map_id]
  rfl
theorem list_all {K : List KV} {L : List S79} (hn : ND K) (hp : K.Perm (prL L)) (hr : rise L) : listK K ⟨#[]⟩ = L := by
  rw [list_law hn hp hr]
  rw [List.filter_eq_self]
  intro x _
  unfold bgn
  have h0 : (⟨#[]⟩ : ByteArray).size = 0 := rfl
  rw [h0, ByteArray.toList_eq, ByteArray.toList_eq]
  simp
/-! A number stored into a row of pairs. -/
theorem R79_put {w : World} {base g c : Nat} {ok : Nat → Prop} {L : List S79} (h : Kd.R k79 79 w base ok (.slice (some ⟨g, 0, none⟩) L.length c) L) (i : Nat) (hi : i < L.length) (m : Int) : Kd.R k79 79 (w.setCell ⟨g, i * 2 + 1, none⟩ (.int .i64 m)) base ok (.slice (some ⟨g, 0, none⟩) L.length c) (L.set i ⟨(L[i]).f0, m⟩) := by
  obtain ⟨h0, inner, ⟨hlen, ho⟩, hr⟩ := h
  refine ⟨h0, inner.set (i * 2 + 1) (.int .i64 m), ⟨?_, ?_⟩, ?_, fun j p hj => ?_⟩
  · rw [List.length_set, List.length_set]; exact hlen
  · rcases ho with ⟨h1, _⟩ | ⟨g', cap, cur, h1, hg, hh, hc, hm, hs, ht⟩
    · cases h1
    · injection h1 with h1 h2 h3
      injection h1 with h1
      injection h1 with h1
      subst h1
      refine .inr ⟨g, cap, cur.setIfInBounds (i * 2 + 1) (.int .i64 m), ?_, hg, ?_, ?_, hm, ?_, ?_⟩
      · rw [List.length_set, h3]
      · exact blk_put hh (i * 2 + 1) _ rfl
      · rw [List.length_set]; exact hc
      · rw [Array.size_setIfInBounds]; exact hs
      · rw [Array.toList_setIfInBounds, List.length_set, List.take_set, ht]
  · rw [List.length_set, List.length_set]; exact hr.1
  · have h2 := hr.2
    rw [List.getElem?_set] at hj
    have e2 : k79.sz = 2 := rfl
    rw [e2]
    rw [e2] at h2
    split at hj
    · rename_i e
      subst e
      cases hj
      have h3 := k79_openM (h2 i L[i] (List.getElem?_eq_getElem hi))
      rw [List.drop_set, if_neg (by omega), List.take_set, h3]
      have : i * 2 + 1 - i * 2 = 1 := by omega
      rw [this]
      exact k79_mkM _ _ _ ⟨(L[i]).f0, m⟩
    · rename_i e
      have h3 := h2 j p hj
      have h4 := k79_openM h3
      rw [List.drop_set]
      split
      · rw [h4]; exact k79_mkM _ _ _ p
      · rw [List.take_set, h4]
        have : ([Value.string p.f0, .int .i64 p.f1].set (i * 2 + 1 - j * 2) (.int .i64 m)) = [Value.string p.f0, .int .i64 p.f1] := List.set_eq_of_length_le (by simp; omega)
        rw [this]
        exact k79_mkM _ _ _ p
end Go.Proofs.Ytehlhaddbfjllaa.Mp
