/- Tables with open places, and the document's. -/
import Derived.Test.YtjgoddieamphpaaProg
import Derived.Test.YtjgoddieamphpaaWWords
import Derived.Test.YtjgoddieamphpaaWLast
import Derived.RegionTactic
import Derived.ChangeAlike
import Derived.BigRegion
import Derived.Outline
import Derived.IntWalk
import Derived.Lib.Hide
import Derived.Deep.LoopGhost
import Derived.Deep.QuietTactic
import Derived.BigQuiet
import Derived.Test.YtjgoddieamphpaaPProbeActsx1
import Derived.Test.YtjgoddieamphpaaPProbeActsx2
set_option linter.unusedVariables false
set_option linter.unusedSimpArgs false
namespace Go.Proofs.Ytjgoddieamphpaa.Probe
/-- An item: a key and its value. -/
abbrev Ent (α : Type) := ByteArray × α
variable {α : Type}

def at_ (sl : List (Option (Ent α))) (p : Nat) : Option (Ent α) := sl.getD p none
def cyc (N x : Nat) : Nat := if x < N then x else x - N
theorem cyc_lt {N x : Nat} (h : x < 2 * N) : cyc N x < N := by unfold cyc; split <;> omega

theorem at_set (sl : List (Option (Ent α))) (p q : Nat) (x : Option (Ent α)) (hp : p < sl.length) : at_ (sl.set p x) q = if p = q then x else at_ sl q := by
  unfold at_
  rw [List.getD_eq_getElem?_getD, List.getElem?_set, List.getD_eq_getElem?_getD]
  by_cases h : p = q
  · subst h; simp [hp]
  · simp [h]

def items (sl : List (Option (Ent α))) : List (Ent α) := sl.filterMap id

theorem items_out (sl : List (Option (Ent α))) (p : Nat) (x : Ent α) (h : at_ sl p = some x) : (items sl).Perm (x :: items (sl.set p none)) := by
  induction sl generalizing p with
  | nil => simp [at_] at h
  | cons a t ih =>
    cases p with
    | zero =>
      simp [at_] at h
      subst h
      simp [items]
    | succ p =>
      have := ih p (by simpa [at_] using h)
      cases a with
      | none => simpa [items] using this
      | some y =>
        simp only [items, List.set_cons_succ, List.filterMap_cons, id] at *
        exact (List.Perm.cons y this).trans (List.Perm.swap x y _)
theorem items_in (sl : List (Option (Ent α))) (p : Nat) (x : Ent α) (hp : p < sl.length) (h : at_ sl p = none) : (items (sl.set p (some x))).Perm (x :: items sl) := by
  have h1 : at_ (sl.set p (some x)) p = some x := by rw [at_set _ _ _ _ hp, if_pos rfl]
  have h2 := items_out _ p x h1
  rw [List.set_set] at h2
  have h3 : sl.set p none = sl := by
    apply List.ext_getElem (by simp)
    intro i h4 h5
    rw [List.getElem_set]
    split
    · rename_i he; subst he
      unfold at_ at h
      rw [List.getD_eq_getElem?_getD, List.getElem?_eq_getElem hp] at h
      simpa using h.symm
    · rfl
  rwa [h3] at h2
theorem mem_items (sl : List (Option (Ent α))) (x : Ent α) : x ∈ items sl ↔ ∃ p, p < sl.length ∧ at_ sl p = some x := by
  unfold items at_
  rw [List.mem_filterMap]
  constructor
  · rintro ⟨y, hy, hx⟩
    obtain ⟨p, hp, rfl⟩ := List.getElem_of_mem hy
    refine ⟨p, hp, ?_⟩
    rw [List.getD_eq_getElem?_getD, List.getElem?_eq_getElem hp]
    exact hx
  · rintro ⟨p, hp, hx⟩
    rw [List.getD_eq_getElem?_getD, List.getElem?_eq_getElem hp] at hx
    exact ⟨_, List.getElem_mem hp, hx⟩

/-- how far p is behind a -/
def dist (N a p : Nat) : Nat := cyc N (p + N - a)

/-- What a table is: N places; each key stands where a walk from its home comes to it; no key stands twice. -/
structure WF (h : ByteArray → Nat) (N : Nat) (sl : List (Option (Ent α))) : Prop where
  len : sl.length = N
  home : ∀ k, h k < N
  nodup : ((items sl).map (·.1)).Nodup
  reach : ∀ p k v, p < N → at_ sl p = some (k, v) → ∀ j, 1 ≤ j → j ≤ dist N (h k) p → at_ sl (cyc N (p + N - j)) ≠ none

theorem key_inj_aux {sl : List (Option (Ent α))} : ∀ (p q : Nat) (k : ByteArray) (v v' : α), ((items sl).map (·.1)).Nodup → at_ sl p = some (k, v) → at_ sl q = some (k, v') → p = q := by
  intro p q k v v' nd hp hq
  apply Classical.byContradiction
  intro hne
  have hp' := items_out sl p _ hp
  have hpl : p < sl.length := by
    apply Classical.byContradiction; intro hn
    unfold at_ at hp
    rw [List.getD_eq_getElem?_getD, List.getElem?_eq_none (by omega)] at hp
    simp at hp
  have hql : q < sl.length := by
    apply Classical.byContradiction; intro hn
    unfold at_ at hq
    rw [List.getD_eq_getElem?_getD, List.getElem?_eq_none (by omega)] at hq
    simp at hq
  have hq' : at_ (sl.set p none) q = some (k, v') := by rw [at_set _ _ _ _ hpl, if_neg hne]; exact hq
  have hm : (k, v') ∈ items (sl.set p none) := (mem_items _ _).2 ⟨q, by simpa using hql, hq'⟩
  have := (hp'.map (·.1)).nodup nd
  simp only [List.map_cons, List.nodup_cons] at this
  exact this.1 (List.mem_map.2 ⟨_, hm, rfl⟩)
theorem WF.inj {h : ByteArray → Nat} {N : Nat} {sl : List (Option (Ent α))} (w : WF h N sl) {p q : Nat} {k : ByteArray} {v v' : α} (hp : at_ sl p = some (k, v)) (hq : at_ sl q = some (k, v')) : p = q := key_inj_aux p q k v v' w.nodup hp hq

/-- A walk has gone d steps from a key's home: all that it passed is used, by others. -/
def Passed (h : ByteArray → Nat) (N : Nat) (sl : List (Option (Ent α))) (k : ByteArray) (d : Nat) : Prop := ∀ j, j < d → ∃ k' v', at_ sl (cyc N (h k + j)) = some (k', v') ∧ k' ≠ k

theorem free_ex (sl : List (Option (Ent α))) (hl : (items sl).length < sl.length) : ∃ p, p < sl.length ∧ at_ sl p = none := by
  induction sl with
  | nil => simp at hl
  | cons a t ih =>
    cases a with
    | none => exact ⟨0, by simp, by simp [at_]⟩
    | some y =>
      have : (items t).length < t.length := by simp [items] at hl ⊢; omega
      obtain ⟨p, hp, he⟩ := ih this
      exact ⟨p + 1, by simp; omega, by simpa [at_] using he⟩
/-- A walk never comes round. -/
theorem passed_lt {h : ByteArray → Nat} {N : Nat} {sl : List (Option (Ent α))} (w : WF h N sl) (hf : (items sl).length < N) {k : ByteArray} {d : Nat} (hd : d ≤ N) (hp : Passed h N sl k d) : d < N := by
  apply Classical.byContradiction
  intro hn
  obtain rfl : d = N := by omega
  obtain ⟨p, hp1, hp2⟩ := free_ex sl (by rw [w.len]; exact hf)
  rw [w.len] at hp1
  have hh := w.home k
  by_cases hc : h k ≤ p
  · obtain ⟨k', v', e, _⟩ := hp (p - h k) (by omega)
    have : cyc d (h k + (p - h k)) = p := by unfold cyc; rw [if_pos (by omega)]; omega
    rw [this, hp2] at e; cases e
  · obtain ⟨k', v', e, _⟩ := hp (p + d - h k) (by omega)
    have : cyc d (h k + (p + d - h k)) = p := by unfold cyc; rw [if_neg (by omega)]; omega
    rw [this, hp2] at e; cases e
/-- Where a walk that passed d ends at what is free, the key is nowhere. -/
theorem absent {h : ByteArray → Nat} {N : Nat} {sl : List (Option (Ent α))} (w : WF h N sl) {k : ByteArray} {d : Nat} (hd : d < N) (hp : Passed h N sl k d) (he : at_ sl (cyc N (h k + d)) = none) : ∀ v, (k, v) ∉ items sl := by
  intro v hm
  obtain ⟨p, hp1, hp2⟩ := (mem_items _ _).1 hm
  rw [w.len] at hp1
  have hh := w.home k
  -- how far p is from home
  have hD : dist N (h k) p < N := by unfold dist; exact cyc_lt (by omega)
  have hback : cyc N (h k + dist N (h k) p) = p := by unfold dist cyc; split <;> split <;> omega
  by_cases hlt : dist N (h k) p < d
  · obtain ⟨k', v', e, ne⟩ := hp _ hlt
    rw [hback, hp2] at e
    injection e with e; injection e with e _
    exact ne e.symm
  · by_cases heq : dist N (h k) p = d
    · rw [← heq, hback, hp2] at he; cases he
    · have := w.reach p k v hp1 hp2 (dist N (h k) p - d) (by omega) (by omega)
      apply this
      have e : cyc N (p + N - (dist N (h k) p - d)) = cyc N (h k + d) := by
        generalize dist N (h k) p = D at *
        unfold cyc at hback ⊢
        split at hback <;> split <;> split <;> omega
      rw [e]; exact he
theorem present {sl : List (Option (Ent α))} {k : ByteArray} {p : Nat} {v : α} (he : at_ sl p = some (k, v)) : (k, v) ∈ items sl := by
  refine (mem_items _ _).2 ⟨p, ?_, he⟩
  apply Classical.byContradiction; intro hn
  unfold at_ at he
  rw [List.getD_eq_getElem?_getD, List.getElem?_eq_none (by omega)] at he
  simp at he
/-- A value is laid anew. -/
theorem WF.upd {h : ByteArray → Nat} {N : Nat} {sl : List (Option (Ent α))} (w : WF h N sl) {p : Nat} {k : ByteArray} {v v' : α} (he : at_ sl p = some (k, v)) (hp : p < N) : WF h N (sl.set p (some (k, v'))) := by
  have hpl : p < sl.length := by rw [w.len]; exact hp
  have e1 := items_out sl p _ he
  have e2 : (items (sl.set p (some (k, v')))).Perm ((k, v') :: items (sl.set p none)) := by
    have := items_in (sl.set p none) p (k, v') (by simpa using hpl) (by rw [at_set _ _ _ _ hpl, if_pos rfl])
    rwa [List.set_set] at this
  refine ⟨by simpa using w.len, w.home, ?_, ?_⟩
  · refine (e2.map (·.1)).symm.nodup ?_
    have := (e1.map (·.1)).nodup w.nodup
    simpa using this
  · intro q k2 v2 hq hs j hj1 hj2
    rw [at_set _ _ _ _ hpl]
    split
    · simp
    · rw [at_set _ _ _ _ hpl] at hs
      split at hs
      · rename_i e; subst e
        injection hs with hs; injection hs with hk _
        subst hk
        exact w.reach p k v hq he j hj1 hj2
      · exact w.reach q k2 v2 hq hs j hj1 hj2
/-- A key is laid where its walk ends. -/
theorem WF.add {h : ByteArray → Nat} {N : Nat} {sl : List (Option (Ent α))} (w : WF h N sl) {d : Nat} {k : ByteArray} {v : α} (hd : d < N) (hp : Passed h N sl k d) (he : at_ sl (cyc N (h k + d)) = none) : WF h N (sl.set (cyc N (h k + d)) (some (k, v))) := by
  have hh := w.home k
  have hpN : cyc N (h k + d) < N := cyc_lt (by omega)
  have hpl : cyc N (h k + d) < sl.length := by rw [w.len]; exact hpN
  have e2 := items_in sl _ (k, v) hpl he
  have ab := absent w hd hp he
  refine ⟨by simpa using w.len, w.home, ?_, ?_⟩
  · refine (e2.map (·.1)).symm.nodup ?_
    simp only [List.map_cons, List.nodup_cons]
    refine ⟨?_, w.nodup⟩
    intro hm
    obtain ⟨⟨k', v'⟩, h1, h2⟩ := List.mem_map.1 hm
    cases h2
    exact ab _ h1
  · intro q k2 v2 hq hs j hj1 hj2
    rw [at_set _ _ _ _ hpl]
    split
    · simp
    · rw [at_set _ _ _ _ hpl] at hs
      split at hs
      · rename_i hne e; subst e
        injection hs with hs; injection hs with hk _
        subst hk
        have hdd : dist N (h k) (cyc N (h k + d)) = d := by unfold dist cyc; split <;> split <;> omega
        rw [hdd] at hj2
        obtain ⟨k', v', e, _⟩ := hp (d - j) (by omega)
        have e3 : cyc N (cyc N (h k + d) + N - j) = cyc N (h k + (d - j)) := by unfold cyc; split <;> split <;> split <;> omega
        rw [e3, e]; simp
      · exact w.reach q k2 v2 hq hs j hj1 hj2

/-! Drop: a hole at f; what stands from behind it up to e steps further has been looked at. -/
structure Hole (h : ByteArray → Nat) (N : Nat) (sl : List (Option (Ent α))) (f e : Nat) : Prop where
  len : sl.length = N
  home : ∀ k, h k < N
  fN : f < N
  e1 : 1 ≤ e
  eN : e ≤ N
  nodup : ((items (sl.set f none)).map (·.1)).Nodup
  used : ∀ t, 1 ≤ t → t < e → at_ sl (cyc N (f + t)) ≠ none
  reach : ∀ p k v, p < N → p ≠ f → at_ sl p = some (k, v) → ∀ j, 1 ≤ j → j ≤ dist N (h k) p → cyc N (p + N - j) = f ∨ at_ sl (cyc N (p + N - j)) ≠ none
  seen : ∀ t k v, 1 ≤ t → t < e → at_ sl (cyc N (f + t)) = some (k, v) → dist N (h k) (cyc N (f + t)) < t

theorem Hole.start {h : ByteArray → Nat} {N : Nat} {sl : List (Option (Ent α))} (w : WF h N sl) {f : Nat} {x : Ent α} (hf : f < N) (hx : at_ sl f = some x) : Hole h N sl f 1 := by
  have e1 := items_out sl f x hx
  refine ⟨w.len, w.home, hf, Nat.le_refl _, by omega, ?_, fun t h1 h2 => by omega, fun p k v hp _ hs j h1 h2 => .inr (w.reach p k v hp hs j h1 h2), fun t _ _ h1 h2 => by omega⟩
  have := (e1.map (·.1)).nodup w.nodup
  simp only [List.map_cons, List.nodup_cons] at this
  exact this.2

theorem Hole.stay {h : ByteArray → Nat} {N : Nat} {sl : List (Option (Ent α))} {f e : Nat} (w : Hole h N sl f e) (heN : e < N) {k : ByteArray} {v : α} (hs : at_ sl (cyc N (f + e)) = some (k, v)) (hd : dist N (h k) (cyc N (f + e)) < e) : Hole h N sl f (e + 1) := by
  refine ⟨w.len, w.home, w.fN, by omega, by omega, w.nodup, ?_, w.reach, ?_⟩
  · intro t h1 h2
    by_cases ht : t = e
    · subst ht; rw [hs]; simp
    · exact w.used t h1 (by omega)
  · intro t k2 v2 h1 h2 h3
    by_cases ht : t = e
    · subst ht
      rw [hs] at h3; injection h3 with h3; injection h3 with hk _; subst hk
      exact hd
    · exact w.seen t k2 v2 h1 (by omega) h3

theorem Hole.move {h : ByteArray → Nat} {N : Nat} {sl : List (Option (Ent α))} {f e : Nat} (w : Hole h N sl f e) (heN : e < N) {k : ByteArray} {v : α} (hs : at_ sl (cyc N (f + e)) = some (k, v)) (hd : e ≤ dist N (h k) (cyc N (f + e))) :
    Hole h N (sl.set f (some (k, v))) (cyc N (f + e)) 1 ∧ (items ((sl.set f (some (k, v))).set (cyc N (f + e)) none)).Perm (items (sl.set f none)) := by
  have hf := w.fN
  have hfl : f < sl.length := by rw [w.len]; exact hf
  have hi : cyc N (f + e) < N := cyc_lt (by omega)
  have hil : cyc N (f + e) < sl.length := by rw [w.len]; exact hi
  have he1 := w.e1
  have hne : f ≠ cyc N (f + e) := by unfold cyc; split <;> omega
  have hperm : (items ((sl.set f (some (k, v))).set (cyc N (f + e)) none)).Perm (items (sl.set f none)) := by
    have a1 : at_ (sl.set f none) (cyc N (f + e)) = some (k, v) := by rw [at_set _ _ _ _ hfl, if_neg hne]; exact hs
    have a2 := items_out _ _ _ a1
    have a3 : at_ ((sl.set f none).set (cyc N (f + e)) none) f = none := by
      rw [at_set _ _ _ _ (by simpa using hil), if_neg (Ne.symm hne), at_set _ _ _ _ hfl, if_pos rfl]
    have a4 := items_in ((sl.set f none).set (cyc N (f + e)) none) f (k, v) (by simpa using hfl) a3
    rw [List.set_comm _ _ (Ne.symm hne), List.set_set] at a4
    exact a4.trans a2.symm
  refine ⟨⟨by simpa using w.len, w.home, hi, Nat.le_refl _, by omega, ?_, fun t h1 h2 => by omega, ?_, fun t _ _ h1 h2 => by omega⟩, hperm⟩
  · exact (hperm.map (·.1)).symm.nodup w.nodup
  · intro p k2 v2 hp hpne hs2 j hj1 hj2
    rw [at_set _ _ _ _ hfl] at hs2
    by_cases hq : cyc N (p + N - j) = cyc N (f + e)
    · exact .inl hq
    · right
      rw [at_set _ _ _ _ hfl]
      split
      · simp
      · rename_i hfq
        split at hs2
        · rename_i hfp
          subst hfp
          injection hs2 with hs2; injection hs2 with hk _
          subst hk
          -- the path of what was moved is the front of its old path
          have hh := w.home k
          have key : dist N (h k) (cyc N (f + e)) = dist N (h k) f + e := by
            unfold dist cyc at *
            split at hd <;> split <;> (try split) <;> (try split) <;> split at hd <;> omega
          have := w.reach (cyc N (f + e)) k v hi (Ne.symm hne) hs (j + e) (by omega) (by omega)
          have e4 : cyc N (cyc N (f + e) + N - (j + e)) = cyc N (f + N - j) := by
            have hD' : dist N (h k) (cyc N (f + e)) < N := by unfold dist; exact cyc_lt (by omega)
            rw [key] at hD'
            clear key this hd hs hne hil hi hperm
            unfold cyc; split <;> split <;> (try split) <;> omega
          rw [e4] at this
          rcases this with h1 | h1
          · exact absurd h1.symm hfq
          · exact h1
        · rcases w.reach p k2 v2 hp (by intro e5; subst e5; contradiction) hs2 j hj1 hj2 with h1 | h1
          · exact absurd h1.symm hfq
          · exact h1

theorem Hole.done {h : ByteArray → Nat} {N : Nat} {sl : List (Option (Ent α))} {f e : Nat} (w : Hole h N sl f e) (heN : e < N) (hs : at_ sl (cyc N (f + e)) = none) : WF h N (sl.set f none) := by
  have hf := w.fN
  have hfl : f < sl.length := by rw [w.len]; exact hf
  have he1 := w.e1
  refine ⟨by simpa using w.len, w.home, w.nodup, ?_⟩
  intro p k v hp hp2 j hj1 hj2
  rw [at_set _ _ _ _ hfl] at hp2
  split at hp2
  · cases hp2
  · rename_i hfp
    rw [at_set _ _ _ _ hfl]
    have hh := w.home k
    have hD : dist N (h k) p < N := by unfold dist; exact cyc_lt (by omega)
    -- where p is behind f
    have ht : ∃ t, 1 ≤ t ∧ t < N ∧ p = cyc N (f + t) := by
      by_cases hc : f < p
      · exact ⟨p - f, by omega, by omega, by unfold cyc; rw [if_pos (by omega)]; omega⟩
      · exact ⟨p + N - f, by omega, by omega, by unfold cyc; rw [if_neg (by omega)]; omega⟩
    obtain ⟨t, ht1, ht2, rfl⟩ := ht
    split
    · rename_i hq
      exfalso
      -- the path crosses f: j = t
      have hjt : j = t := by
        unfold cyc at hq; split at hq <;> split at hq <;> omega
      subst hjt
      by_cases hlt : j < e
      · have := w.seen j k v ht1 hlt hp2
        omega
      · by_cases heq : j = e
        · subst heq; rw [hs] at hp2; cases hp2
        · -- it passes e
          rcases w.reach _ k v hp (Ne.symm hfp) hp2 (j - e) (by omega) (by omega) with h1 | h1
          · unfold cyc at h1; split at h1 <;> split at h1 <;> omega
          · apply h1
            have e6 : cyc N (cyc N (f + j) + N - (j - e)) = cyc N (f + e) := by
              unfold cyc; split <;> split <;> (try split) <;> omega
            rw [e6]; exact hs
    · rename_i hq
      rcases w.reach _ k v hp (Ne.symm hfp) hp2 j hj1 hj2 with h1 | h1
      · exact absurd h1.symm hq
      · exact h1
theorem Hole.e_lt {h : ByteArray → Nat} {N : Nat} {sl : List (Option (Ent α))} {f e : Nat} (w : Hole h N sl f e) (hc : (items (sl.set f none)).length + 1 < N) : e < N := by
  apply Classical.byContradiction
  intro hn
  have heN := w.eN
  have hf := w.fN
  have hfl : f < sl.length := by rw [w.len]; exact hf
  obtain rfl : e = N := by omega
  -- put something at f: all is used
  obtain ⟨x, hx⟩ : ∃ x : Ent α, True := by
    cases hN : e with
    | zero => omega
    | succ m =>
      cases m with
      | zero => omega
      | succ m =>
        have := w.used 1 (by omega) (by omega)
        cases hq : at_ sl (cyc e (f + 1)) with
        | none => exact absurd hq this
        | some x => exact ⟨x, trivial⟩
  have hin := items_in (sl.set f none) f x (by simpa using hfl) (by rw [at_set _ _ _ _ hfl, if_pos rfl])
  rw [List.set_set] at hin
  obtain ⟨p, hp1, hp2⟩ := free_ex (sl.set f (some x)) (by rw [hin.length_eq]; simp; rw [w.len]; exact hc)
  rw [at_set _ _ _ _ hfl] at hp2
  split at hp2
  · cases hp2
  · rename_i hfp
    have hp1 : p < e := by simpa [w.len] using hp1
    by_cases hcmp : f < p
    · exact w.used (p - f) (by omega) (by omega) (by rw [show cyc e (f + (p - f)) = p by unfold cyc; rw [if_pos (by omega)]; omega]; exact hp2)
    · exact w.used (p + e - f) (by omega) (by omega) (by rw [show cyc e (f + (p + e - f)) = p by unfold cyc; rw [if_neg (by omega)]; omega]; exact hp2)
end Go.Proofs.Ytjgoddieamphpaa.Probe
set_option linter.unusedVariables false
namespace Go.Proofs.Ytjgoddieamphpaa.Obj
open Go.RowKit Go.Proofs.YtjgoddieamphpaaW.PrintWords Go.Proofs.YtjgoddieamphpaaW.PrintLast

/-- w1 is w with new blocks and writes to blocks in F alone. -/
structure Frm (F : Nat → Prop) (w w' : World) : Prop where
  os : w'.os = w.os
  tape : w'.tape = w.tape
  output : w'.output = w.output
  size : w.heap.size ≤ w'.heap.size
  block : ∀ k, k < w.heap.size → ¬ F k → w'.heap[k]? = w.heap[k]?
theorem Frm.refl (F : Nat → Prop) (w : World) : Frm F w w := ⟨rfl, rfl, rfl, Nat.le_refl _, fun _ _ _ => rfl⟩
theorem Frm.trans {F : Nat → Prop} {a b c : World} (h : Frm F a b) (k : Frm F b c) : Frm F a c :=
  ⟨k.os.trans h.os, k.tape.trans h.tape, k.output.trans h.output, Nat.le_trans h.size k.size, fun i hi hn => (k.block i (Nat.lt_of_lt_of_le hi h.size) hn).trans (h.block i hi hn)⟩
theorem Frm.mono {F G : Nat → Prop} {a b : World} (h : Frm F a b) (hg : ∀ k, k < a.heap.size → F k → G k) : Frm G a b :=
  ⟨h.os, h.tape, h.output, h.size, fun i hi hn => h.block i hi (fun hf => hn (hg i hi hf))⟩
/-- Writes to F, and to what is new to a, are writes to F. -/
theorem Frm.then {F G : Nat → Prop} {a b c : World} (h : Frm F a b) (k : Frm G b c) (hg : ∀ i, i < a.heap.size → G i → F i) : Frm F a c :=
  ⟨k.os.trans h.os, k.tape.trans h.tape, k.output.trans h.output, Nat.le_trans h.size k.size, fun i hi hn => (k.block i (Nat.lt_of_lt_of_le hi h.size) (fun hf => hn (hg i hi hf))).trans (h.block i hi hn)⟩
theorem Frm.of_below {F : Nat → Prop} {w w' : World} (h : Below w.heap.size w w') : Frm F w w' := ⟨h.os, h.tape, h.output, h.size, fun k hk _ => h.block k hk⟩
theorem Frm.alloc {F : Nat → Prop} {a w : World} (h : Frm F a w) (o : Obj) : Frm F a (w.alloc o) :=
  h.trans ⟨rfl, rfl, rfl, by simp, fun k hk _ => Below.heap_alloc _ _ _ hk⟩
theorem Frm.drew {F : Nat → Prop} {a w : World} (h : Frm F a w) : Frm F a w.drew := ⟨h.os, h.tape, h.output, h.size, h.block⟩
theorem Frm.drewN {F : Nat → Prop} {a w : World} (h : Frm F a w) (n : Nat) : Frm F a (w.drewN n) := ⟨h.os, h.tape, h.output, h.size, h.block⟩
theorem Frm.setCell {F : Nat → Prop} {a w : World} (h : Frm F a w) {p : Addr} (hp : F p.block ∨ a.heap.size ≤ p.block) (u : Value) : Frm F a (w.setCell p u) :=
  ⟨h.os, h.tape, h.output, by rw [show (w.setCell p u).heap.size = w.heap.size by simp [World.setCell]]; exact h.size, fun k hk hn => (Below.heap_setCell _ _ _ _ (fun e => by subst e; rcases hp with hp | hp; exact hn hp; omega)).trans (h.block k hk hn)⟩
theorem Frm.blk {F : Nat → Prop} {w w' : World} (h : Frm F w w') {g : Nat} {o : Obj} (hb : w.heap[g]? = some o) (hg : ¬ F g) : w'.heap[g]? = some o := (h.block g (blk_lt hb) hg).trans hb
theorem Frm.to_below {w w' : World} (h : Frm (fun _ => False) w w') : Below w.heap.size w w' := ⟨h.os, h.tape, h.output, h.size, fun k hk => h.block k hk (fun hf => hf)⟩
theorem Frm.cell {F : Nat → Prop} {w w' : World} (h : Frm F w w') {a : Addr} {v : Value} (hc : w.cell? a = some v) (hn : ¬ F a.block) : w'.cell? a = some v :=
  (World.cell?_of_block (w := w) (h.block a.block (World.block_lt_of_cell? w a hc) hn)).trans hc
end Go.Proofs.Ytjgoddieamphpaa.Obj
namespace Go.Proofs.Ytjgoddieamphpaa.Obj
open Go.RowKit Go.Proofs.YtjgoddieamphpaaW.PrintWords Go.Proofs.YtjgoddieamphpaaW.PrintLast
set_option maxRecDepth 100000
/-- One byte upon a text's sum. -/
def hstep (h : Int) (c : UInt8) : Int := IntKind.u64.wrap (Go.bits .xor .u64 h (IntKind.u64.wrap (c.toNat : Int)) * 1099511628211)
def hsum (l : List UInt8) : Int := l.foldl hstep 14695981039346656037
theorem take_snoc (s : ByteArray) (k : Nat) (h : k < s.size) : s.data.toList.take (k + 1) = s.data.toList.take k ++ [s[k]] := by
  rw [List.take_succ_eq_append_getElem (by simpa using h)]; rfl
theorem hsum_snoc (s : ByteArray) (k : Nat) (h : k < s.size) : hsum (s.data.toList.take (k + 1)) = hstep (hsum (s.data.toList.take k)) s[k] := by
  rw [take_snoc s k h]; unfold hsum; rw [List.foldl_append]; rfl
theorem sum_any (s : ByteArray) (w : World) (hs : s.size ≤ 9223372036854775807) :
    Calls Try.prog 91 #[.string s] w fun e w' => e = .returned (.int .u64 (hsum s.data.toList)) ∧ w = w' := by
  go_enter Try.func91, Try.ntmps91
  go_wp2
  go_loop [3, 7] (fun n i => ∃ k : Nat, k ≤ s.size ∧ i = .int .i64 k ∧ n = .int .u64 (hsum (s.data.toList.take k))) (fun _ i => s.size - (intOf i).toNat)
  case atStart => exact ⟨0, Nat.zero_le _, rfl, rfl⟩
  case round =>
    obtain ⟨k, hk, rfl, rfl⟩ := hrel
    by_cases hlt : k < s.size
    · have HS := Lib.hid (hsum_snoc s k hlt)
      generalize hsum (s.data.toList.take k) = h0 at *
      go_wp2
      go_round
      case rel => refine ⟨k + 1, by omega, by go_num, ?_⟩; rw [HS.out, hstep]
      case measure => simp [intOf]; omega
    · go_wp2
      go_ret
      exact ⟨by rw [List.take_of_length_le (by simp; omega)]; rfl, rfl⟩
theorem rsum_any (s : ByteArray) (w : World) (hs : s.size ≤ 9223372036854775807) :
    Calls Try.prog 83 #[.string s] w fun e w' => e = .returned (.int .u64 (hsum s.data.toList)) ∧ w = w' := by
  go_enter Try.func83, Try.ntmps83
  go_wp2
  go_loop [3, 4] (fun n i => ∃ k : Nat, k ≤ s.size ∧ i = .int .i64 k ∧ n = .int .u64 (hsum (s.data.toList.take k))) (fun _ i => s.size - (intOf i).toNat)
  case atStart => exact ⟨0, Nat.zero_le _, rfl, rfl⟩
  case round =>
    obtain ⟨k, hk, rfl, rfl⟩ := hrel
    by_cases hlt : k < s.size
    · have HS := Lib.hid (hsum_snoc s k hlt)
      generalize hsum (s.data.toList.take k) = h0 at *
      go_wp2
      go_round
      case rel => refine ⟨k + 1, by omega, by go_num, ?_⟩; rw [HS.out, hstep]
      case measure => simp [intOf]; omega
    · go_wp2
      go_ret
      exact ⟨by rw [List.take_of_length_le (by simp; omega)]; rfl, rfl⟩

/-- A text's place among n. -/
def slotN (s : ByteArray) (n : Nat) : Nat := (hsum s.data.toList).toNat % n
theorem hstep_rng (h : Int) (c : UInt8) : 0 ≤ hstep h c ∧ hstep h c < 18446744073709551616 := by
  unfold hstep; rw [IntKind.wrap_u64]; omega
theorem hsum_rng (l : List UInt8) : 0 ≤ hsum l ∧ hsum l < 18446744073709551616 := by
  suffices ∀ (l : List UInt8) (h : Int), 0 ≤ h → h < 18446744073709551616 → 0 ≤ l.foldl hstep h ∧ l.foldl hstep h < 18446744073709551616 from this l _ (by decide) (by decide)
  intro l
  induction l with
  | nil => intro h a b; exact ⟨a, b⟩
  | cons c t ih => intro h a b; exact ih _ (hstep_rng h c).1 (hstep_rng h c).2
theorem slotN_lt (s : ByteArray) (n : Nat) (hn : 0 < n) : slotN s n < n := Nat.mod_lt _ hn
theorem slot_val (h : Int) (n : Nat) (h0 : 0 ≤ h) (h1 : h < 18446744073709551616) (hn : 0 < n) (hN : n ≤ 10000) :
    wrap64 (Int.tmod h (IntKind.u64.wrap (n : Int))) = ((h.toNat % n : Nat) : Int) := by
  have hu : IntKind.u64.wrap (n : Int) = n := by rw [IntKind.wrap_u64]; omega
  rw [hu, Int.tmod_eq_emod_of_nonneg h0]
  have m0 := Int.emod_nonneg h (show (n : Int) ≠ 0 by omega)
  have m1 := Int.emod_lt_of_pos h (show (0 : Int) < n by omega)
  have : wrap64 (h % n) = h % n := by unfold wrap64; omega
  rw [this]
  obtain ⟨m, rfl⟩ : ∃ m : Nat, h = m := ⟨h.toNat, by omega⟩
  simp
theorem slot_any (s : ByteArray) (n : Nat) (w : World) (hs : s.size ≤ 9223372036854775807) (hn : 0 < n) (hN : n ≤ 10000) :
    Calls Try.prog 86 #[.string s, .int .i64 (n : Int)] w fun e w' => e = .returned (.int .i64 (slotN s n : Nat)) ∧ w = w' := by
  have c1 : decide ((n : Int) < 1) = false := decide_eq_false (by omega)
  have hu : IntKind.u64.wrap (n : Int) = n := by rw [IntKind.wrap_u64]; omega
  have hz : ((n : Int) == 0) = false := by simp; omega
  have HV := Lib.hid (slot_val _ n (hsum_rng s.data.toList).1 (hsum_rng s.data.toList).2 hn hN)
  go_enter Try.func86, Try.ntmps86
  go_wp2_with fail
  (with_reducible refine (sum_any s _ hs).mono ?_); rintro e w' ⟨rfl, rfl⟩
  go_wp2
  go_ret
  exact ⟨by unfold slotN; rw [← HV.out]; first | rfl | (rw [hu]; rfl), rfl⟩
theorem rslot_any (s : ByteArray) (n : Nat) (w : World) (hs : s.size ≤ 9223372036854775807) (hn : 0 < n) (hN : n ≤ 10000) :
    Calls Try.prog 63 #[.string s, .int .i64 (n : Int)] w fun e w' => e = .returned (.int .i64 (slotN s n : Nat)) ∧ w = w' := by
  have c1 : decide ((n : Int) < 1) = false := decide_eq_false (by omega)
  have hu : IntKind.u64.wrap (n : Int) = n := by rw [IntKind.wrap_u64]; omega
  have hz : ((n : Int) == 0) = false := by simp; omega
  have HV := Lib.hid (slot_val _ n (hsum_rng s.data.toList).1 (hsum_rng s.data.toList).2 hn hN)
  go_enter Try.func63, Try.ntmps63
  go_wp2_with fail
  (with_reducible refine (rsum_any s _ hs).mono ?_); rintro e w' ⟨rfl, rfl⟩
  go_wp2
  go_ret
  exact ⟨by unfold slotN; rw [← HV.out]; first | rfl | (rw [hu]; rfl), rfl⟩
end Go.Proofs.Ytjgoddieamphpaa.Obj
namespace Go.Proofs.Ytjgoddieamphpaa.Obj
open Go.RowKit Go.Proofs.YtjgoddieamphpaaW.PrintWords Go.Proofs.YtjgoddieamphpaaW.PrintLast Probe
set_option maxRecDepth 100000
variable {α : Type}
/-- The three cells of a slot. -/
def c3 (enc : α → Value) (zv : Value) : Option (Ent α) → List Value
  | none => [.bool false, .string ⟨#[]⟩, zv]
  | some (k, v) => [.bool true, .string k, enc v]
theorem c3_len (enc : α → Value) (zv : Value) (x : Option (Ent α)) : (c3 enc zv x).length = 3 := by cases x <;> rfl
def flat (enc : α → Value) (zv : Value) (sl : List (Option (Ent α))) : List Value := sl.flatMap (c3 enc zv)
theorem flat_len (enc : α → Value) (zv : Value) (sl : List (Option (Ent α))) : (flat enc zv sl).length = sl.length * 3 := by
  induction sl with
  | nil => rfl
  | cons x t ih => unfold flat at *; rw [List.flatMap_cons, List.length_append, ih, c3_len, List.length_cons]; omega
theorem flat_get (enc : α → Value) (zv : Value) (sl : List (Option (Ent α))) (i j : Nat) (hi : i < sl.length) (hj : j < 3) : (flat enc zv sl)[i * 3 + j]? = (c3 enc zv (at_ sl i))[j]? := by
  induction sl generalizing i with
  | nil => simp at hi
  | cons x t ih =>
    unfold flat; rw [List.flatMap_cons]
    cases i with
    | zero =>
      rw [List.getElem?_append_left (by rw [c3_len]; omega)]
      simp [at_]
    | succ i =>
      rw [List.getElem?_append_right (by rw [c3_len]; omega), c3_len]
      have := ih i (by simpa using hi)
      unfold flat at this
      rw [show (i + 1) * 3 + j - 3 = i * 3 + j by omega, this]
      simp [at_]
theorem flat_set (enc : α → Value) (zv : Value) (sl : List (Option (Ent α))) (i : Nat) (x : Option (Ent α)) (a b c : Value) (hx : c3 enc zv x = [a, b, c]) (hi : i < sl.length) :
    (((flat enc zv sl).set (i * 3) a).set (i * 3 + 1) b).set (i * 3 + 2) c = flat enc zv (sl.set i x) := by
  apply List.ext_getElem?
  intro q
  by_cases hq : q < sl.length * 3
  · have hr : q = q / 3 * 3 + q % 3 := by omega
    have hj : q % 3 < 3 := by omega
    have hp : q / 3 < sl.length := by omega
    generalize q / 3 = m at *
    generalize q % 3 = j at *
    subst hr
    rw [flat_get _ _ _ _ _ (by simpa using hp) hj, at_set _ _ _ _ hi]
    by_cases hm : i = m
    · subst hm
      rw [if_pos rfl, hx]
      have hl := flat_len enc zv sl
      match j, hj with
      | 0, _ => rw [List.getElem?_set_ne (by omega), List.getElem?_set_ne (by omega)]; exact List.getElem?_set_self (by omega)
      | 1, _ => rw [List.getElem?_set_ne (by omega), List.getElem?_set_self (by simp; omega)]; rfl
      | 2, _ => rw [List.getElem?_set_self (by simp; omega)]; rfl
    · rw [if_neg hm, List.getElem?_set_ne (by omega), List.getElem?_set_ne (by omega), List.getElem?_set_ne (by omega), flat_get _ _ _ _ _ hp hj]
  · have hl := flat_len enc zv sl
    have hl2 := flat_len enc zv (sl.set i x)
    rw [List.getElem?_eq_none (by simp; omega), List.getElem?_eq_none (by rw [hl2]; simp; omega)]

/-- A table: its head in block p (type T), its slots in block b (type S). -/
structure Tab (enc : α → Value) (zv : Value) (T S : Nat) (w : World) (p b : Nat) (most : Nat) (sl : List (Option (Ent α))) : Prop where
  hd : w.heap[p]? = some (.cells #[.int .i64 most, .int .i64 ((items sl).length : Nat), .slice (some ⟨b, 0, none⟩) (2 * most) (2 * most)] T (0, 0))
  bk : w.heap[b]? = some (.cells (flat enc zv sl).toArray S (0, 0))
  wf : WF (fun k => slotN k (2 * most)) (2 * most) sl
  room : (items sl).length ≤ most
  pos : 1 ≤ most
  big : most ≤ 4096
  keys : ∀ x ∈ items sl, x.1.size ≤ 9223372036854775807
section
variable {enc : α → Value} {zv : Value} {T S : Nat} {w w1 : World} {p b most : Nat} {sl : List (Option (Ent α))}
theorem Tab.len (h : Tab enc zv T S w p b most sl) : sl.length = 2 * most := h.wf.len
theorem Tab.c0 (h : Tab enc zv T S w p b most sl) : w.cell? ⟨p, 0, none⟩ = some (.int .i64 most) := (blk_cell h.hd 0).trans rfl
theorem Tab.c1 (h : Tab enc zv T S w p b most sl) : w.cell? ⟨p, 1, none⟩ = some (.int .i64 ((items sl).length : Nat)) := (blk_cell h.hd 1).trans rfl
theorem Tab.c2 (h : Tab enc zv T S w p b most sl) : w.cell? ⟨p, 2, none⟩ = some (.slice (some ⟨b, 0, none⟩) (2 * most) (2 * most)) := (blk_cell h.hd 2).trans rfl
theorem Tab.cell (h : Tab enc zv T S w p b most sl) (i j : Nat) (hi : i < 2 * most) (hj : j < 3) : w.cell? ⟨b, i * 3 + j, none⟩ = (c3 enc zv (at_ sl i))[j]? := by
  rw [blk_cell h.bk, List.getElem?_toArray, flat_get _ _ _ _ _ (by rw [h.len]; exact hi) hj]
theorem Tab.none_at (h : Tab enc zv T S w p b most sl) {i : Nat} (hi : i < 2 * most) (e : at_ sl i = none) : w.cell? ⟨b, i * 3, none⟩ = some (.bool false) ∧ w.cell? ⟨b, i * 3 + 1, none⟩ = some (.string ⟨#[]⟩) ∧ w.cell? ⟨b, i * 3 + 2, none⟩ = some zv := by
  have a := h.cell i 0 hi (by omega); have b := h.cell i 1 hi (by omega); have c := h.cell i 2 hi (by omega)
  rw [e] at a b c
  exact ⟨a, b, c⟩
theorem Tab.some_at (h : Tab enc zv T S w p b most sl) {i : Nat} (hi : i < 2 * most) {k : ByteArray} {v : α} (e : at_ sl i = some (k, v)) : w.cell? ⟨b, i * 3, none⟩ = some (.bool true) ∧ w.cell? ⟨b, i * 3 + 1, none⟩ = some (.string k) ∧ w.cell? ⟨b, i * 3 + 2, none⟩ = some (enc v) := by
  have a := h.cell i 0 hi (by omega); have b := h.cell i 1 hi (by omega); have c := h.cell i 2 hi (by omega)
  rw [e] at a b c
  exact ⟨a, b, c⟩
theorem Tab.move (h : Tab enc zv T S w p b most sl) (hp : w1.heap[p]? = w.heap[p]?) (hb : w1.heap[b]? = w.heap[b]?) : Tab enc zv T S w1 p b most sl :=
  ⟨hp.trans h.hd, hb.trans h.bk, h.wf, h.room, h.pos, h.big, h.keys⟩
theorem Tab.frm (h : Tab enc zv T S w p b most sl) {F : Nat → Prop} (k : Frm F w w1) (hp : ¬ F p) (hb : ¬ F b) : Tab enc zv T S w1 p b most sl :=
  h.move (k.block p (blk_lt h.hd) hp) (k.block b (blk_lt h.bk) hb)
theorem Tab.drew (h : Tab enc zv T S w p b most sl) : Tab enc zv T S w.drew p b most sl := h.move rfl rfl
theorem Tab.drewN (h : Tab enc zv T S w p b most sl) (n : Nat) : Tab enc zv T S (w.drewN n) p b most sl := h.move rfl rfl
theorem Tab.free (h : Tab enc zv T S w p b most sl) : (items sl).length < 2 * most := by have := h.room; have := h.pos; omega
end
theorem mod_cyc (N x : Nat) (h : x < 2 * N) : x % N = cyc N x := by
  unfold cyc
  split
  · exact Nat.mod_eq_of_lt ‹_›
  · rw [Nat.mod_eq_sub_mod (by omega), Nat.mod_eq_of_lt (by omega)]
theorem cyc_step (N h d : Nat) (hh : h < N) (hd : d + 1 < N) : (cyc N (h + d) + 1) % N = cyc N (h + (d + 1)) := by
  rw [mod_cyc _ _ (by have := cyc_lt (N := N) (x := h + d) (by omega); omega)]
  unfold cyc; split <;> split <;> (try split) <;> omega
theorem bytes_beq_true (a : ByteArray) : (a.toList == a.toList) = true := by simp
theorem bytes_ne {a b : ByteArray} (h : a ≠ b) : a.toList ≠ b.toList := by
  intro e; apply h
  have e1 : a.toList = a.data.toList := by exact ByteArray.toList_eq a
  have e2 : b.toList = b.data.toList := by exact ByteArray.toList_eq b
  rw [e1, e2] at e
  cases a; cases b; simp at e; simp [e]
end Go.Proofs.Ytjgoddieamphpaa.Obj
namespace Go.Proofs.Ytjgoddieamphpaa.Obj
open Go.RowKit Go.Proofs.YtjgoddieamphpaaW.PrintWords Go.Proofs.YtjgoddieamphpaaW.PrintLast Probe
set_option maxRecDepth 100000
set_option linter.unusedVariables false
abbrev TabI := Tab (α := Int) (Value.int .i64) (.int .i64 0) 101 103
abbrev TabS := Tab (α := ByteArray) Value.string (.string ⟨#[]⟩) 93 95
theorem inext_any (p b : Nat) (N i : Nat) (w : World) (hc2 : w.cell? ⟨p, 2, none⟩ = some (.slice (some ⟨b, 0, none⟩) N N)) (hi : i < N) (hN : N ≤ 10000) :
    Calls Try.prog 68 #[.pointer (some ⟨p, 0, none⟩), .int .i64 (i : Int)] w fun e w' => e = .returned (.int .i64 (((i + 1) % N : Nat) : Int)) ∧ w = w' := by
  have e1 : ((N : Int) == 0) = false := by simp; omega
  go_enter Try.func68, Try.ntmps68
  go_wp2
  go_ret
  exact ⟨by simp, rfl⟩
theorem ihome_any (p b : Nat) (N : Nat) (s : ByteArray) (w : World) (hc2 : w.cell? ⟨p, 2, none⟩ = some (.slice (some ⟨b, 0, none⟩) N N)) (hs : s.size ≤ 9223372036854775807) (hn : 0 < N) (hN : N ≤ 10000) :
    Calls Try.prog 69 #[.pointer (some ⟨p, 0, none⟩), .string s] w fun e w' => e = .returned (.int .i64 (slotN s N : Nat)) ∧ w = w' := by
  go_enter Try.func69, Try.ntmps69
  go_wp2_with fail
  (with_reducible refine (slot_any s N _ hs hn hN).mono ?_); rintro e w' ⟨rfl, rfl⟩
  go_wp2
  go_ret
  exact ⟨rfl, rfl⟩
theorem iwalk_any {p b most : Nat} {sl : List (Option (Ent Int))} {w : World} (key : ByteArray) (HT : TabI w p b most sl) (hs : key.size ≤ 9223372036854775807) :
    Calls Try.prog 67 #[.pointer (some ⟨p, 0, none⟩), .string key] w fun e w' => ∃ d, d < 2 * most ∧ e = .returned (.int .i64 (cyc (2 * most) (slotN key (2 * most) + d) : Nat)) ∧ w = w' ∧
      Passed (fun k => slotN k (2 * most)) (2 * most) sl key d ∧ (at_ sl (cyc (2 * most) (slotN key (2 * most) + d)) = none ∨ ∃ v, at_ sl (cyc (2 * most) (slotN key (2 * most) + d)) = some (key, v)) := by
  have hn : 0 < 2 * most := by have := HT.pos; omega
  have hN : 2 * most ≤ 10000 := by have := HT.big; omega
  have hc2 := HT.c2
  have hH := slotN_lt key (2 * most) hn
  have HT := Aside0.mk HT
  go_enter Try.func67, Try.ntmps67
  go_wp2_with fail
  (with_reducible refine (ihome_any p b (2 * most) key _ hc2 hs hn hN).mono ?_); rintro e w' ⟨rfl, rfl⟩
  go_wp2
  go_loopg [5] (2 * most) (fun kq v5 w' => ∃ d : Nat, v5 = .int .i64 (cyc (2 * most) (slotN key (2 * most) + d) : Nat) ∧ Aside0 (kq + d = 2 * most ∧ d < 2 * most ∧ Passed (fun k => slotN k (2 * most)) (2 * most) sl key d) ∧ w = w')
  case atStart => exact ⟨0, by rw [Nat.add_zero, show cyc (2 * most) (slotN key (2 * most)) = slotN key (2 * most) from if_pos hH], ⟨by omega, hn, fun j hj => by omega⟩, rfl⟩
  case round =>
    obtain ⟨d, rfl, HD, rfl⟩ := hrel
    have hi : cyc (2 * most) (slotN key (2 * most) + d) < 2 * most := cyc_lt (by have := HD.out.2.1; omega)
    cases hx : at_ sl (cyc (2 * most) (slotN key (2 * most) + d)) with
    | none =>
      have HX := Lib.hid hx
      obtain ⟨h0, h1, h2⟩ := HT.out.none_at hi hx
      clear h1 h2 hx
      generalize hc : cyc (2 * most) (slotN key (2 * most) + d) = i at *
      go_wp2
      go_ret
      exact ⟨d, HD.out.2.1, by rw [hc]; rfl, rfl, HD.out.2.2, .inl (by rw [hc]; exact HX.out)⟩
    | some x =>
      obtain ⟨k2, v⟩ := x
      have HX := Lib.hid hx
      obtain ⟨h0, h1, h2⟩ := HT.out.some_at hi hx
      clear h2 hx
      by_cases hk : k2 = key
      · subst hk
        generalize hc : cyc (2 * most) (slotN k2 (2 * most) + d) = i at *
        have HC := Lib.hid hc
        clear hc
        go_wp2
        go_ret
        exact ⟨d, HD.out.2.1, by rw [HC.out]; rfl, rfl, HD.out.2.2, .inr ⟨v, by rw [HC.out]; exact HX.out⟩⟩
      · have HP : Aside0 (d + 1 < 2 * most ∧ Passed (fun k => slotN k (2 * most)) (2 * most) sl key (d + 1)) := by
          have hp : Passed (fun k => slotN k (2 * most)) (2 * most) sl key (d + 1) := by
            intro j hj
            by_cases hjd : j = d
            · subst hjd; exact ⟨k2, v, HX.out, hk⟩
            · exact HD.out.2.2 j (by omega)
          exact ⟨passed_lt HT.out.wf HT.out.free (by have := HD.out.2.1; omega) hp, hp⟩
        have b1 : (k2.toList == key.toList) = false := by simpa using bytes_ne hk
        have b2 : (k2.toList != key.toList) = true := by simpa using bytes_ne hk
        have HS := Lib.hid (cyc_step (2 * most) (slotN key (2 * most)) d hH (HP.out.1))
        clear hk
        generalize hc : cyc (2 * most) (slotN key (2 * most) + d) = i at *
        have HC := Lib.hid hc
        clear hc
        go_wp2_with fail
        (with_reducible refine (inext_any p b (2 * most) i _ hc2 hi hN).mono ?_); rintro e w' ⟨rfl, rfl⟩
        go_wp2
        go_roundg (gk - 1)
        case measure => have := HD.out; omega
        case rel => exact ⟨d + 1, by rw [← HS.out]; simp, ⟨by have := HD.out; omega, HP.out.1, HP.out.2⟩, rfl⟩

end Go.Proofs.Ytjgoddieamphpaa.Obj
namespace Go.Proofs.Ytjgoddieamphpaa.Obj
open Go.RowKit Go.Proofs.YtjgoddieamphpaaW.PrintWords Go.Proofs.YtjgoddieamphpaaW.PrintLast Probe
set_option maxRecDepth 100000
set_option linter.unusedVariables false
theorem ihit_eq {p b most : Nat} {sl : List (Option (Ent Int))} {w : World} {key : ByteArray} (HT : TabI w p b most sl) {i : Nat} {v : Int} (he : at_ sl i = some (key, v)) {d : Nat} (hd : d < 2 * most)
    (hp : Passed (fun k => slotN k (2 * most)) (2 * most) sl key d) (h : at_ sl (cyc (2 * most) (slotN key (2 * most) + d)) = none ∨ ∃ v, at_ sl (cyc (2 * most) (slotN key (2 * most) + d)) = some (key, v)) : cyc (2 * most) (slotN key (2 * most) + d) = i := by
  rcases h with h | ⟨v', h⟩
  · exact absurd (present he) (absent HT.wf hd hp h v)
  · exact HT.wf.inj h he
theorem imiss_eq {p b most : Nat} {sl : List (Option (Ent Int))} {w : World} {key : ByteArray} (HT : TabI w p b most sl) (hm : ∀ v, (key, v) ∉ items sl) {d : Nat}
    (h : at_ sl (cyc (2 * most) (slotN key (2 * most) + d)) = none ∨ ∃ v, at_ sl (cyc (2 * most) (slotN key (2 * most) + d)) = some (key, v)) : at_ sl (cyc (2 * most) (slotN key (2 * most) + d)) = none := by
  rcases h with h | ⟨v', h⟩
  · exact h
  · exact absurd (present h) (hm v')
theorem iat_hit {p b most : Nat} {sl : List (Option (Ent Int))} {w : World} {key : ByteArray} (HT : TabI w p b most sl) (hs : key.size ≤ 9223372036854775807) {i : Nat} {v : Int} (he : at_ sl i = some (key, v)) (hi : i < 2 * most) :
    Calls Try.prog 50 #[.pointer (some ⟨p, 0, none⟩), .string key] w fun e w' => e = .returned (.int .i64 (i : Nat)) ∧ w = w' := by
  have HE := Lib.hid he
  have hc2 := HT.c2
  obtain ⟨h0, h1, h2⟩ := HT.some_at hi he
  clear h1 h2 he
  have HT := Aside0.mk HT
  go_enter Try.func50, Try.ntmps50
  go_wp2_with fail
  (with_reducible refine (iwalk_any key HT.out hs).mono ?_); rintro e w' ⟨d, hd, rfl, rfl, hp, hx⟩
  obtain hh := ihit_eq HT.out HE.out hd hp hx
  rw [hh]
  clear hh hp hx hd
  go_wp2
  go_ret
  exact ⟨rfl, rfl⟩
theorem iat_miss {p b most : Nat} {sl : List (Option (Ent Int))} {w : World} {key : ByteArray} (HT : TabI w p b most sl) (hs : key.size ≤ 9223372036854775807) (hm : ∀ v, (key, v) ∉ items sl) :
    Calls Try.prog 50 #[.pointer (some ⟨p, 0, none⟩), .string key] w fun e w' => e = .returned (.int .i64 (-1)) ∧ w = w' := by
  have HM := Lib.hid hm
  clear hm
  have hc2 := HT.c2
  have hn : 0 < 2 * most := by have := HT.pos; omega
  have hH := slotN_lt key (2 * most) hn
  have HT := Aside0.mk HT
  go_enter Try.func50, Try.ntmps50
  go_wp2_with fail
  (with_reducible refine (iwalk_any key HT.out hs).mono ?_); rintro e w' ⟨d, hd, rfl, rfl, hp, hx⟩
  have hx := imiss_eq HT.out HM.out hx
  have hi : cyc (2 * most) (slotN key (2 * most) + d) < 2 * most := cyc_lt (by omega)
  obtain ⟨h0, h1, h2⟩ := HT.out.none_at hi hx
  clear h1 h2 hx hp hd
  generalize cyc (2 * most) (slotN key (2 * most) + d) = i at *
  go_wp2
  go_ret
  exact ⟨rfl, rfl⟩
theorem iat_nil (key : ByteArray) (w : World) :
    Calls Try.prog 50 #[.pointer none, .string key] w fun e w' => e = .returned (.int .i64 (-1)) ∧ w = w' := by
  go_enter Try.func50, Try.ntmps50
  go_wp2
  go_ret
  exact ⟨rfl, rfl⟩
theorem ilen_any {p b most : Nat} {sl : List (Option (Ent Int))} {w : World} (HT : TabI w p b most sl) :
    Calls Try.prog 23 #[.pointer (some ⟨p, 0, none⟩)] w fun e w' => e = .returned (.int .i64 ((items sl).length : Nat)) ∧ w = w' := by
  have hc1 := HT.c1
  go_enter Try.func23, Try.ntmps23
  go_wp2
  go_ret
  exact ⟨rfl, rfl⟩
theorem ilen_nil (w : World) :
    Calls Try.prog 23 #[.pointer none] w fun e w' => e = .returned (.int .i64 0) ∧ w = w' := by
  go_enter Try.func23, Try.ntmps23
  go_wp2
  go_ret
  exact ⟨rfl, rfl⟩
theorem iput_nil (key : ByteArray) (v : Int) (w : World) :
    Calls Try.prog 21 #[.pointer none, .string key, Value.int .i64 v] w fun e w' => e = .returned (.int .i64 6) ∧ w = w' := by
  go_enter Try.func21, Try.ntmps21
  go_wp2
  go_ret
  exact ⟨rfl, rfl⟩
theorem iget_hit {p b most : Nat} {sl : List (Option (Ent Int))} {w : World} {key : ByteArray} (HT : TabI w p b most sl) (hs : key.size ≤ 9223372036854775807) {i : Nat} {v : Int} (he : at_ sl i = some (key, v)) (hi : i < 2 * most) :
    Calls Try.prog 49 #[.pointer (some ⟨p, 0, none⟩), .string key] w fun e w' => e = .returned (.tuple #[Value.int .i64 v, .bool true]) ∧ w = w' := by
  have HE := Lib.hid he
  have hc2 := HT.c2
  obtain ⟨h0, h1, h2⟩ := HT.some_at hi he
  clear h1 h0 he
  have HT := Aside0.mk HT
  have hlt : ¬ ((i : Int) < 0) := by omega
  go_enter Try.func49, Try.ntmps49
  go_wp2_with fail
  (with_reducible refine (iat_hit HT.out hs HE.out hi).mono ?_); rintro e w' ⟨rfl, rfl⟩
  go_wp2
  go_ret2
  exact ⟨rfl, rfl⟩
theorem iget_miss {p b most : Nat} {sl : List (Option (Ent Int))} {w : World} {key : ByteArray} (HT : TabI w p b most sl) (hs : key.size ≤ 9223372036854775807) (hm : ∀ v, (key, v) ∉ items sl) :
    Calls Try.prog 49 #[.pointer (some ⟨p, 0, none⟩), .string key] w fun e w' => e = .returned (.tuple #[.int .i64 0, .bool false]) ∧ w = w' := by
  have HM := Lib.hid hm
  clear hm
  have HT := Aside0.mk HT
  go_enter Try.func49, Try.ntmps49
  go_wp2_with fail
  (with_reducible refine (iat_miss HT.out hs HM.out).mono ?_); rintro e w' ⟨rfl, rfl⟩
  go_wp2
  go_ret2
  exact ⟨rfl, rfl⟩

end Go.Proofs.Ytjgoddieamphpaa.Obj
namespace Go.Proofs.Ytjgoddieamphpaa.Obj
open Go.RowKit Go.Proofs.YtjgoddieamphpaaW.PrintWords Go.Proofs.YtjgoddieamphpaaW.PrintLast Probe
set_option maxRecDepth 100000
set_option linter.unusedVariables false
section
variable {α : Type} {enc : α → Value} {zv : Value} {T S : Nat} {w w1 : World} {p b most : Nat} {sl : List (Option (Ent α))}
theorem Tab.ne (h : Tab enc zv T S w p b most sl) (hT : T ≠ S) : p ≠ b := blk_ne h.hd h.bk hT
theorem items_upd {h : ByteArray → Nat} {N : Nat} {sl : List (Option (Ent α))} (w : WF h N sl) {i : Nat} {k : ByteArray} {v : α} (he : at_ sl i = some (k, v)) (hi : i < N) (v' : α) :
    (∀ x ∈ items (sl.set i (some (k, v'))), x = (k, v') ∨ x ∈ items sl) ∧ (items (sl.set i (some (k, v')))).length = (items sl).length := by
  have hl : i < sl.length := by rw [w.len]; exact hi
  have e1 := items_out sl i _ he
  have e2 : (items (sl.set i (some (k, v')))).Perm ((k, v') :: items (sl.set i none)) := by
    have := items_in (sl.set i none) i (k, v') (by simpa using hl) (by rw [at_set _ _ _ _ hl, if_pos rfl])
    rwa [List.set_set] at this
  refine ⟨fun x hx => ?_, by rw [e2.length_eq, e1.length_eq]; rfl⟩
  rcases List.mem_cons.1 (e2.mem_iff.1 hx) with h | h
  · exact .inl h
  · exact .inr (e1.mem_iff.2 (List.mem_cons_of_mem _ h))
/-- A slot's three cells are stored. -/
theorem blk_flat (h : w.heap[b]? = some (.cells (flat enc zv sl).toArray S (0, 0))) (i : Nat) (x : Option (Ent α)) (a0 a1 a2 : Value) (hx : c3 enc zv x = [a0, a1, a2]) (hi : i < sl.length) :
    (((w.setCell ⟨b, i * 3, none⟩ a0).setCell ⟨b, i * 3 + 1, none⟩ a1).setCell ⟨b, i * 3 + 2, none⟩ a2).heap[b]? = some (.cells (flat enc zv (sl.set i x)).toArray S (0, 0)) := by
  have h3 := blk_set (blk_set (blk_set h (i * 3) a0) (i * 3 + 1) a1) (i * 3 + 2) a2
  rw [h3, ← flat_set enc zv sl i x a0 a1 a2 hx hi]
  simp
theorem Tab.store (h : Tab enc zv T S w p b most sl) (i : Nat) (x : Option (Ent α)) (a0 a1 a2 : Value) (hx : c3 enc zv x = [a0, a1, a2]) (hi : i < 2 * most) (hT : T ≠ S) (hn : (items (sl.set i x)).length = (items sl).length)
    (hw : WF (fun k => slotN k (2 * most)) (2 * most) (sl.set i x)) (hr : (items (sl.set i x)).length ≤ most) (hk : ∀ y ∈ items (sl.set i x), y.1.size ≤ 9223372036854775807) :
    Tab enc zv T S (((w.setCell ⟨b, i * 3, none⟩ a0).setCell ⟨b, i * 3 + 1, none⟩ a1).setCell ⟨b, i * 3 + 2, none⟩ a2) p b most (sl.set i x) :=
  ⟨by rw [hn]; exact blk_far (blk_far (blk_far h.hd (h.ne hT) _) (h.ne hT) _) (h.ne hT) _, blk_flat h.bk i x a0 a1 a2 hx (by rw [h.len]; exact hi), hw, hr, h.pos, h.big, hk⟩
theorem Tab.store1 (h : Tab enc zv T S w p b most sl) (nq : Nat) (i : Nat) (x : Option (Ent α)) (a0 a1 a2 : Value) (c : Int) (hx : c3 enc zv x = [a0, a1, a2]) (hi : i < 2 * most) (hT : T ≠ S) (hc : c = ((items (sl.set i x)).length : Nat))
    (hw : WF (fun k => slotN k (2 * most)) (2 * most) (sl.set i x)) (hr : (items (sl.set i x)).length ≤ most) (hk : ∀ y ∈ items (sl.set i x), y.1.size ≤ 9223372036854775807) :
    Tab enc zv T S (((((w.drewN nq).setCell ⟨p, 1, none⟩ (.int .i64 c)).setCell ⟨b, i * 3, none⟩ a0).setCell ⟨b, i * 3 + 1, none⟩ a1).setCell ⟨b, i * 3 + 2, none⟩ a2) p b most (sl.set i x) :=
  ⟨by rw [← hc]; exact blk_far (blk_far (blk_far (blk_put (blk_drewN h.hd nq) 1 _ rfl) (h.ne hT) _) (h.ne hT) _) (h.ne hT) _,
   blk_flat (blk_far (blk_drewN h.bk nq) (Ne.symm (h.ne hT)) _) i x a0 a1 a2 hx (by rw [h.len]; exact hi), hw, hr, h.pos, h.big, hk⟩
theorem frm4 (w : World) (p b : Nat) (nq i : Nat) (c a0 a1 a2 : Value) : Frm (fun k => k = p ∨ k = b) w (((((w.drewN nq).setCell ⟨p, 1, none⟩ c).setCell ⟨b, i * 3, none⟩ a0).setCell ⟨b, i * 3 + 1, none⟩ a1).setCell ⟨b, i * 3 + 2, none⟩ a2) :=
  (((((Frm.refl _ w).drewN nq).setCell (.inl (.inl rfl)) _).setCell (.inl (.inr rfl)) _).setCell (.inl (.inr rfl)) _).setCell (.inl (.inr rfl)) _
theorem frm3 (w : World) (p b : Nat) (i : Nat) (a0 a1 a2 : Value) : Frm (fun k => k = p ∨ k = b) w (((w.setCell ⟨b, i * 3, none⟩ a0).setCell ⟨b, i * 3 + 1, none⟩ a1).setCell ⟨b, i * 3 + 2, none⟩ a2) :=
  (((Frm.refl _ w).setCell (.inl (.inr rfl)) _).setCell (.inl (.inr rfl)) _).setCell (.inl (.inr rfl)) _
end
theorem iput_hit {p b most : Nat} {sl : List (Option (Ent Int))} {w : World} {key : ByteArray} (HT : TabI w p b most sl) (hs : key.size ≤ 9223372036854775807) (v' : Int) {i : Nat} {v : Int} (he : at_ sl i = some (key, v)) (hi : i < 2 * most) :
    Calls Try.prog 21 #[.pointer (some ⟨p, 0, none⟩), .string key, Value.int .i64 v'] w fun e w' => e = .returned (.int .i64 0) ∧ TabI w' p b most (sl.set i (some (key, v'))) ∧ Frm (fun k => k = p ∨ k = b) w w' := by
  have HE := Lib.hid he
  have hc2 := HT.c2
  obtain ⟨h0, h1, h2⟩ := HT.some_at hi he
  clear he
  have hf : ∀ j, w.frozen? ⟨b, j, none⟩ = false := fun j => blk_frozen HT.bk j
  have f0 := hf (i * 3)
  have f1 := hf (i * 3 + 1)
  have f2 := hf (i * 3 + 2)
  clear hf
  have HT := Aside0.mk HT
  go_enter Try.func21, Try.ntmps21
  go_wp2_with fail
  (with_reducible refine (iwalk_any key HT.out hs).mono ?_); rintro e w' ⟨d, hd, rfl, rfl, hp, hx⟩
  obtain hh := ihit_eq HT.out HE.out hd hp hx
  rw [hh]
  clear hh hp hx hd
  go_wp2
  go_ret
  exact ⟨rfl, HT.out.store i (some (key, v')) _ _ _ rfl hi (by decide) (by have := (items_upd HT.out.wf HE.out hi v').2; rw [this]) (HT.out.wf.upd HE.out hi) (by have := (items_upd HT.out.wf HE.out hi v').2; rw [this]; exact HT.out.room) (by intro x hx; rcases (items_upd HT.out.wf HE.out hi v').1 x hx with rfl | hx; exact hs; exact HT.out.keys x hx), frm3 _ _ _ _ _ _ _⟩
theorem iput_full {p b most : Nat} {sl : List (Option (Ent Int))} {w : World} {key : ByteArray} (HT : TabI w p b most sl) (hs : key.size ≤ 9223372036854775807) (v' : Int) (hm : ∀ v, (key, v) ∉ items sl) (hfull : most ≤ (items sl).length) :
    Calls Try.prog 21 #[.pointer (some ⟨p, 0, none⟩), .string key, Value.int .i64 v'] w fun e w' => e = .returned (.int .i64 6) ∧ ∃ n, w' = w.drewN n := by
  have HM := Lib.hid hm
  clear hm
  have hc0 := HT.c0
  have hc1 := HT.c1
  have hc2 := HT.c2
  have hn : 0 < 2 * most := by have := HT.pos; omega
  have hH := slotN_lt key (2 * most) hn
  have HT := Aside0.mk HT
  have c1 : decide ((most : Int) ≤ ((items sl).length : Int)) = true := decide_eq_true (by omega)
  have c2 : decide (most ≤ (items sl).length) = true := decide_eq_true (by omega)
  go_enter Try.func21, Try.ntmps21
  go_wp2_with fail
  (with_reducible refine (iwalk_any key HT.out hs).mono ?_); rintro e w' ⟨d, hd, rfl, rfl, hp, hx⟩
  have hx := imiss_eq HT.out HM.out hx
  have hi : cyc (2 * most) (slotN key (2 * most) + d) < 2 * most := cyc_lt (by omega)
  obtain ⟨h0, h1, h2⟩ := HT.out.none_at hi hx
  clear h1 h2 hx hp hd
  generalize cyc (2 * most) (slotN key (2 * most) + d) = i at *
  go_wp2
  go_quiet (fail)
  go_wp2
  go_ret
  exact ⟨rfl, _, rfl⟩
theorem iput_new {p b most : Nat} {sl : List (Option (Ent Int))} {w : World} {key : ByteArray} (HT : TabI w p b most sl) (hs : key.size ≤ 9223372036854775807) (v' : Int) (hm : ∀ v, (key, v) ∉ items sl) (hroom : (items sl).length < most) :
    Calls Try.prog 21 #[.pointer (some ⟨p, 0, none⟩), .string key, Value.int .i64 v'] w fun e w' => e = .returned (.int .i64 0) ∧ (∃ i, i < 2 * most ∧ at_ sl i = none ∧ TabI w' p b most (sl.set i (some (key, v')))) ∧ Frm (fun k => k = p ∨ k = b) w w' := by
  have HM := Lib.hid hm
  clear hm
  have hc0 := HT.c0
  have hc1 := HT.c1
  have hc2 := HT.c2
  have hn : 0 < 2 * most := by have := HT.pos; omega
  have hH := slotN_lt key (2 * most) hn
  have hbig := HT.big
  have hpb : p ≠ b := HT.ne (by decide)
  have fp : w.frozen? ⟨p, 1, none⟩ = false := blk_frozen HT.hd 1
  have HT := Aside0.mk HT
  have c1 : decide ((most : Int) ≤ ((items sl).length : Int)) = false := decide_eq_false (by omega)
  have c2 : decide (most ≤ (items sl).length) = false := decide_eq_false (by omega)
  have hw1 : IntKind.i64.wrap (((items sl).length : Int) + 1) = (((items sl).length + 1 : Nat) : Int) := by rw [IntKind.wrap_i64]; omega
  go_enter Try.func21, Try.ntmps21
  go_wp2_with fail
  (with_reducible refine (iwalk_any key HT.out hs).mono ?_); rintro e w' ⟨d, hd, rfl, rfl, hp, hx⟩
  have hx := imiss_eq HT.out HM.out hx
  have hi : cyc (2 * most) (slotN key (2 * most) + d) < 2 * most := cyc_lt (by omega)
  have HP := Lib.hid (HT.out.wf.add (v := v') hd hp hx)
  obtain ⟨h0, h1, h2⟩ := HT.out.none_at hi hx
  have HX := Lib.hid hx
  clear hx hp hd
  have hf : ∀ j, w.frozen? ⟨b, j, none⟩ = false := fun j => blk_frozen HT.out.bk j
  generalize cyc (2 * most) (slotN key (2 * most) + d) = i at *
  have f0 := hf (i * 3)
  have f1 := hf (i * 3 + 1)
  have f2 := hf (i * 3 + 2)
  clear hf
  go_wp2
  go_quiet (fail)
  go_wp2
  go_ret
  have hin := items_in sl i (key, v') (by rw [HT.out.len]; exact hi) HX.out
  have hlen : (items (sl.set i (some (key, v')))).length = (items sl).length + 1 := by rw [hin.length_eq]; rfl
  exact ⟨rfl, ⟨i, hi, HX.out, HT.out.store1 nq i (some (key, v')) _ _ _ _ rfl hi (by decide) (by rw [hlen]; rfl) HP.out (by rw [hlen]; omega) (by intro x hx; rcases List.mem_cons.1 (hin.mem_iff.1 hx) with rfl | hx; exact hs; exact HT.out.keys x hx)⟩, frm4 _ _ _ _ _ _ _ _ _⟩

end Go.Proofs.Ytjgoddieamphpaa.Obj
namespace Go.Proofs.Ytjgoddieamphpaa.Obj
open Go.RowKit Go.Proofs.YtjgoddieamphpaaW.PrintWords Go.Proofs.YtjgoddieamphpaaW.PrintLast Probe
set_option maxRecDepth 100000
set_option linter.unusedVariables false
theorem dist_mod (N a p : Nat) (ha : a < N) (hp : p < N) : (p + N - a) % N = dist N a p := by
  unfold dist; exact mod_cyc _ _ (by omega)
theorem dist_at (N f e : Nat) (hf : f < N) (he : e < N) : dist N f (cyc N (f + e)) = e := by
  unfold dist cyc; split <;> split <;> omega
theorem cyc_next (N f e : Nat) (hf : f < N) (he : e < N) : (cyc N (f + e) + 1) % N = cyc N (f + (e + 1)) := by
  have h := cyc_lt (N := N) (x := f + e) (by omega)
  rw [mod_cyc _ _ (by omega)]
  unfold cyc; split <;> split <;> (try split) <;> omega
theorem dist_less (N i z : Nat) (hi : i < N) (hz : z < N) (hne : i ≠ z) : dist N ((i + 1) % N) z + 1 = dist N i z := by
  rw [mod_cyc _ _ (by omega)]
  unfold dist cyc; split <;> split <;> (try split) <;> omega
theorem made_flat {α : Type} (enc : α → Value) (zv : Value) (n : Nat) : madeCells #[.bool false, .string ⟨#[]⟩, zv] (n * 3) = (flat enc zv (List.replicate n none)).toArray := by
  apply Array.ext'
  apply List.ext_getElem?
  intro q
  have hl := flat_len enc zv (List.replicate n none)
  rw [List.length_replicate] at hl
  by_cases hq : q < n * 3
  · have hr : q = q / 3 * 3 + q % 3 := by omega
    have hj : q % 3 < 3 := by omega
    have hp : q / 3 < n := by omega
    have hm : (madeCells #[.bool false, .string ⟨#[]⟩, zv] (n * 3)).toList[q]? = some (#[Value.bool false, .string ⟨#[]⟩, zv][q % 3]!) := by
      unfold madeCells
      rw [Array.getElem?_toList, Array.getElem?_map, Array.getElem?_range, if_pos hq]
      rfl
    rw [hm]
    show _ = (flat enc zv (List.replicate n none))[q]?
    generalize q / 3 = m at *
    generalize q % 3 = j at *
    subst hr
    have hat : at_ (List.replicate n (none : Option (Ent α))) m = none := by
      unfold at_; rw [List.getD_eq_getElem?_getD, List.getElem?_replicate]; simp [hp]
    have := flat_get enc zv (List.replicate n none) m j (by simpa using hp) hj
    rw [hat] at this
    match j, hj with
    | 0, _ => exact this.symm
    | 1, _ => exact this.symm
    | 2, _ => exact this.symm
  · rw [List.getElem?_eq_none (by simp [madeCells]; omega), List.getElem?_eq_none (by simp; omega)]
theorem items_none {α : Type} (n : Nat) : items (List.replicate n (none : Option (Ent α))) = [] := by
  induction n with
  | zero => rfl
  | succ n ih => rw [List.replicate_succ]; simp [items]
theorem WF.none {α : Type} (h : ByteArray → Nat) (N : Nat) (hh : ∀ k, h k < N) : WF h N (List.replicate N (none : Option (Ent α))) := by
  refine ⟨List.length_replicate, hh, by rw [items_none]; exact List.nodup_nil, fun p k v hp he => ?_⟩
  have : at_ (List.replicate N (Option.none : Option (Ent α))) p = Option.none := by
    unfold at_; rw [List.getD_eq_getElem?_getD, List.getElem?_replicate]; simp [hp]
  rw [this] at he; cases he
theorem iaway_any (p b : Nat) (N i j : Nat) (w : World) (hc2 : w.cell? ⟨p, 2, none⟩ = some (.slice (some ⟨b, 0, none⟩) N N)) (hi : i < N) (hj : j < N) (hN : N ≤ 10000) :
    Calls Try.prog 70 #[.pointer (some ⟨p, 0, none⟩), .int .i64 (i : Int), .int .i64 (j : Int)] w fun e w' => e = .returned (.int .i64 (dist N i j : Nat)) ∧ ∃ n, w' = w.drewN n := by
  have e1 : ((N : Int) == 0) = false := by simp; omega
  have e2 : 0 ≤ (j : Int) - i + N := by omega
  have E3 := Lib.hid (show (j : Int) - i + N = ((j + N - i : Nat) : Int) by omega)
  have E4 := Lib.hid (dist_mod N i j hi hj)
  go_enter Try.func70, Try.ntmps70
  go_wp2
  go_quiet (fail)
  go_wp2
  go_ret
  refine ⟨?_, _, rfl⟩
  show Ending.returned (.int .i64 (((j : Int) - i + N) % (N : Int))) = _
  rw [E3.out, ← E4.out]; rfl
theorem islots_any {p b most : Nat} {sl : List (Option (Ent Int))} {w : World} (HT : TabI w p b most sl) :
    Calls Try.prog 62 #[.pointer (some ⟨p, 0, none⟩)] w fun e w' => e = .returned (.int .i64 ((2 * most : Nat) : Int)) ∧ w = w' := by
  have hc2 := HT.c2
  go_enter Try.func62, Try.ntmps62
  go_wp2
  go_ret
  exact ⟨by simp, rfl⟩
theorem iowner_low {p b most : Nat} {sl : List (Option (Ent Int))} {w : World} (i : Int) (hi : i < 0) :
    Calls Try.prog 79 #[.pointer (some ⟨p, 0, none⟩), .int .i64 i] w fun e w' => e = .returned (.tuple #[.string ⟨#[]⟩, .bool false]) ∧ w = w' := by
  have c1 : decide (i < 0) = true := decide_eq_true hi
  go_enter Try.func79, Try.ntmps79
  go_wp2
  go_ret2
  exact ⟨rfl, rfl⟩
theorem iowner_high {p b most : Nat} {sl : List (Option (Ent Int))} {w : World} (HT : TabI w p b most sl) (i : Nat) (hi : 2 * most ≤ i) :
    Calls Try.prog 79 #[.pointer (some ⟨p, 0, none⟩), .int .i64 (i : Int)] w fun e w' => e = .returned (.tuple #[.string ⟨#[]⟩, .bool false]) ∧ w = w' := by
  have c1 : decide ((i : Int) < 0) = false := decide_eq_false (by omega)
  have c2 : decide (((2 * most : Nat) : Int) ≤ (i : Int)) = true := decide_eq_true (by omega)
  have c3 : decide (2 * (most : Int) ≤ (i : Int)) = true := decide_eq_true (by omega)
  have c4 : decide (2 * most ≤ i) = true := decide_eq_true (by omega)
  have HT := Aside0.mk HT
  go_enter Try.func79, Try.ntmps79
  go_wp2_with fail
  (with_reducible refine (islots_any HT.out).mono ?_); rintro e w' ⟨rfl, rfl⟩
  go_wp2
  go_ret2
  exact ⟨rfl, rfl⟩
theorem iowner_none {p b most : Nat} {sl : List (Option (Ent Int))} {w : World} (HT : TabI w p b most sl) (i : Nat) (hi : i < 2 * most) (he : at_ sl i = none) :
    Calls Try.prog 79 #[.pointer (some ⟨p, 0, none⟩), .int .i64 (i : Int)] w fun e w' => e = .returned (.tuple #[.string ⟨#[]⟩, .bool false]) ∧ w = w' := by
  have c1 : decide ((i : Int) < 0) = false := decide_eq_false (by omega)
  have c2 : decide (((2 * most : Nat) : Int) ≤ (i : Int)) = false := decide_eq_false (by omega)
  have c3 : decide (2 * (most : Int) ≤ (i : Int)) = false := decide_eq_false (by omega)
  have c4 : decide (2 * most ≤ i) = false := decide_eq_false (by omega)
  have hc2 := HT.c2
  obtain ⟨h0, h1, h2⟩ := HT.none_at hi he
  have HT := Aside0.mk HT
  clear he
  go_enter Try.func79, Try.ntmps79
  go_wp2_with fail
  (with_reducible refine (islots_any HT.out).mono ?_); rintro e w' ⟨rfl, rfl⟩
  go_wp2
  go_ret2
  exact ⟨rfl, rfl⟩
theorem iowner_some {p b most : Nat} {sl : List (Option (Ent Int))} {w : World} (HT : TabI w p b most sl) (i : Nat) (hi : i < 2 * most) {k : ByteArray} {v : Int} (he : at_ sl i = some (k, v)) :
    Calls Try.prog 79 #[.pointer (some ⟨p, 0, none⟩), .int .i64 (i : Int)] w fun e w' => e = .returned (.tuple #[.string k, .bool true]) ∧ w = w' := by
  have c1 : decide ((i : Int) < 0) = false := decide_eq_false (by omega)
  have c2 : decide (((2 * most : Nat) : Int) ≤ (i : Int)) = false := decide_eq_false (by omega)
  have c3 : decide (2 * (most : Int) ≤ (i : Int)) = false := decide_eq_false (by omega)
  have c4 : decide (2 * most ≤ i) = false := decide_eq_false (by omega)
  have hc2 := HT.c2
  obtain ⟨h0, h1, h2⟩ := HT.some_at hi he
  have HT := Aside0.mk HT
  clear he
  go_enter Try.func79, Try.ntmps79
  go_wp2_with fail
  (with_reducible refine (islots_any HT.out).mono ?_); rintro e w' ⟨rfl, rfl⟩
  go_wp2
  go_ret2
  exact ⟨rfl, rfl⟩

end Go.Proofs.Ytjgoddieamphpaa.Obj
namespace Go.Proofs.Ytjgoddieamphpaa.Obj
open Go.RowKit Go.Proofs.YtjgoddieamphpaaW.PrintWords Go.Proofs.YtjgoddieamphpaaW.PrintLast Probe
set_option maxRecDepth 100000
set_option linter.unusedVariables false
theorem slotN_lt' (n : Nat) (hn : 1 ≤ n) (k : ByteArray) : slotN k (2 * n) < 2 * n := slotN_lt k _ (by omega)
theorem tab_new {α : Type} {enc : α → Value} {zv : Value} {T S : Nat} (n : Nat) (hn : 1 ≤ n) (hN : n ≤ 4096) (w : World) :
    Tab enc zv T S ((w.alloc (.cells (flat enc zv (List.replicate (2 * n) none)).toArray S)).alloc (.cells #[.int .i64 n, .int .i64 0, .slice (some ⟨w.heap.size, 0, none⟩) (2 * n) (2 * n)] T)) (w.heap.size + 1) w.heap.size n (List.replicate (2 * n) none) :=
  ⟨by rw [items_none]; have := blk_new (w.alloc (.cells (flat enc zv (List.replicate (2 * n) none)).toArray S)) (.cells #[.int .i64 n, .int .i64 0, .slice (some ⟨w.heap.size, 0, none⟩) (2 * n) (2 * n)] T); rw [show (w.alloc (.cells (flat enc zv (List.replicate (2 * n) none)).toArray S)).heap.size = w.heap.size + 1 by simp] at this; exact this,
   blk_alloc (blk_new w _) _, WF.none _ _ (slotN_lt' n hn), by rw [items_none]; simp, hn, hN, by rw [items_none]; simp⟩
/-- The row of slots while a key is dropped: the hole is at f; e steps behind it have been looked at; z is free. -/
structure Drp {α : Type} (enc : α → Value) (zv : Value) (T S : Nat) (w0 w : World) (p b most many : Nat) (C : List (Ent α)) (sl : List (Option (Ent α))) (f e z : Nat) : Prop where
  hd : w.heap[p]? = some (.cells #[.int .i64 most, .int .i64 many, .slice (some ⟨b, 0, none⟩) (2 * most) (2 * most)] T (0, 0))
  bk : w.heap[b]? = some (.cells (flat enc zv sl).toArray S (0, 0))
  hole : Hole (fun k => slotN k (2 * most)) (2 * most) sl f e
  perm : (items (sl.set f none)).Perm C
  room : C.length + 1 < 2 * most
  zN : z < 2 * most
  zf : at_ sl z = none
  ff : ∃ x, at_ sl f = some x
  keys : ∀ i x, at_ sl i = some x → x.1.size ≤ 9223372036854775807
  frm : Frm (fun k => k = p ∨ k = b) w0 w
section
variable {α : Type} {enc : α → Value} {zv : Value} {T S : Nat} {w0 w w1 : World} {p b most many : Nat} {C : List (Ent α)} {sl : List (Option (Ent α))} {f e z : Nat}
theorem Drp.e_lt (h : Drp enc zv T S w0 w p b most many C sl f e z) : e < 2 * most := h.hole.e_lt (by rw [h.perm.length_eq]; exact h.room)
theorem Drp.iN (h : Drp enc zv T S w0 w p b most many C sl f e z) : cyc (2 * most) (f + e) < 2 * most := cyc_lt (by have := h.e_lt; have := h.hole.fN; omega)
theorem Drp.c2 (h : Drp enc zv T S w0 w p b most many C sl f e z) : w.cell? ⟨p, 2, none⟩ = some (.slice (some ⟨b, 0, none⟩) (2 * most) (2 * most)) := (blk_cell h.hd 2).trans rfl
theorem Drp.c1 (h : Drp enc zv T S w0 w p b most many C sl f e z) : w.cell? ⟨p, 1, none⟩ = some (.int .i64 many) := (blk_cell h.hd 1).trans rfl
theorem Drp.cell (h : Drp enc zv T S w0 w p b most many C sl f e z) (i j : Nat) (hi : i < 2 * most) (hj : j < 3) : w.cell? ⟨b, i * 3 + j, none⟩ = (c3 enc zv (at_ sl i))[j]? := by
  rw [blk_cell h.bk, List.getElem?_toArray, flat_get _ _ _ _ _ (by rw [h.hole.len]; exact hi) hj]
theorem Drp.none_at (h : Drp enc zv T S w0 w p b most many C sl f e z) {i : Nat} (hi : i < 2 * most) (e : at_ sl i = none) : w.cell? ⟨b, i * 3, none⟩ = some (.bool false) := by
  have a := h.cell i 0 hi (by omega)
  rw [e] at a
  exact a
theorem Drp.some_at (h : Drp enc zv T S w0 w p b most many C sl f e z) {i : Nat} (hi : i < 2 * most) {k : ByteArray} {v : α} (e : at_ sl i = some (k, v)) : w.cell? ⟨b, i * 3, none⟩ = some (.bool true) ∧ w.cell? ⟨b, i * 3 + 1, none⟩ = some (.string k) ∧ w.cell? ⟨b, i * 3 + 2, none⟩ = some (enc v) := by
  have a := h.cell i 0 hi (by omega); have b := h.cell i 1 hi (by omega); have c := h.cell i 2 hi (by omega)
  rw [e] at a b c
  exact ⟨a, b, c⟩
theorem Drp.old_at (h : Drp enc zv T S w0 w p b most many C sl f e z) : ∃ a0 a1 a2, w.cell? ⟨b, f * 3, none⟩ = some a0 ∧ w.cell? ⟨b, f * 3 + 1, none⟩ = some a1 ∧ w.cell? ⟨b, f * 3 + 2, none⟩ = some a2 := by
  obtain ⟨⟨k, v⟩, hx⟩ := h.ff
  obtain ⟨a, b, c⟩ := h.some_at h.hole.fN hx
  exact ⟨_, _, _, a, b, c⟩
theorem Drp.move_w (h : Drp enc zv T S w0 w p b most many C sl f e z) (hp : w1.heap = w.heap) (hf : Frm (fun k => k = p ∨ k = b) w w1) : Drp enc zv T S w0 w1 p b most many C sl f e z :=
  ⟨by rw [hp]; exact h.hd, by rw [hp]; exact h.bk, h.hole, h.perm, h.room, h.zN, h.zf, h.ff, h.keys, h.frm.trans hf⟩
theorem Drp.drewN (h : Drp enc zv T S w0 w p b most many C sl f e z) (n : Nat) : Drp enc zv T S w0 (w.drewN n) p b most many C sl f e z := h.move_w rfl ((Frm.refl _ _).drewN n)
theorem Drp.stay (h : Drp enc zv T S w0 w p b most many C sl f e z) {k : ByteArray} {v : α} (hs : at_ sl (cyc (2 * most) (f + e)) = some (k, v)) (hd : dist (2 * most) (slotN k (2 * most)) (cyc (2 * most) (f + e)) < e) : Drp enc zv T S w0 w p b most many C sl f (e + 1) z :=
  ⟨h.hd, h.bk, h.hole.stay h.e_lt hs hd, h.perm, h.room, h.zN, h.zf, h.ff, h.keys, h.frm⟩
theorem Drp.shift (h : Drp enc zv T S w0 w p b most many C sl f e z) (hT : T ≠ S) {k : ByteArray} {v : α} (hs : at_ sl (cyc (2 * most) (f + e)) = some (k, v)) (hd : e ≤ dist (2 * most) (slotN k (2 * most)) (cyc (2 * most) (f + e)))
    (hw : w1.heap = (((w.setCell ⟨b, f * 3, none⟩ (.bool true)).setCell ⟨b, f * 3 + 1, none⟩ (.string k)).setCell ⟨b, f * 3 + 2, none⟩ (enc v)).heap) (hfr : Frm (fun k => k = p ∨ k = b) w w1) :
    Drp enc zv T S w0 w1 p b most many C (sl.set f (some (k, v))) (cyc (2 * most) (f + e)) 1 z := by
  obtain ⟨m1, m2⟩ := h.hole.move h.e_lt hs hd
  have hne : p ≠ b := blk_ne h.hd h.bk hT
  have hfl : f < sl.length := by rw [h.hole.len]; exact h.hole.fN
  have hfi : f ≠ cyc (2 * most) (f + e) := by
    have := h.hole.e1; have := h.e_lt; have := h.hole.fN
    unfold cyc; split <;> omega
  refine ⟨by rw [hw]; exact blk_far (blk_far (blk_far h.hd hne _) hne _) hne _, by rw [hw]; exact blk_flat h.bk f (some (k, v)) _ _ _ rfl hfl, m1, m2.trans h.perm, h.room, h.zN, ?_, ⟨(k, v), ?_⟩, ?_, h.frm.trans hfr⟩
  · rw [at_set _ _ _ _ hfl, if_neg]; exact h.zf
    rintro rfl
    obtain ⟨x, hx⟩ := h.ff
    rw [h.zf] at hx; cases hx
  · rw [at_set _ _ _ _ hfl, if_neg hfi]; exact hs
  · intro i x hx
    rw [at_set _ _ _ _ hfl] at hx
    split at hx
    · obtain rfl := Option.some.inj hx; exact h.keys _ _ hs
    · exact h.keys i x hx
theorem Drp.done (h : Drp enc zv T S w0 w p b most many C sl f e z) (hT : T ≠ S) (hs : at_ sl (cyc (2 * most) (f + e)) = none) (hmany : many = C.length + 1) (hpos : 1 ≤ most) (hbig : most ≤ 4096) (hr : C.length ≤ most)
    (hw : w1.heap = (((w.setCell ⟨b, f * 3, none⟩ (.bool false)).setCell ⟨b, f * 3 + 1, none⟩ (.string ⟨#[]⟩)).setCell ⟨b, f * 3 + 2, none⟩ zv).heap) (c : Int) (hc : c = (many : Int) - 1) :
    Tab enc zv T S (w1.setCell ⟨p, 1, none⟩ (.int .i64 c)) p b most (sl.set f none) := by
  have hne : p ≠ b := blk_ne h.hd h.bk hT
  have hfl : f < sl.length := by rw [h.hole.len]; exact h.hole.fN
  have h1 : w1.heap[p]? = some (.cells #[.int .i64 most, .int .i64 many, .slice (some ⟨b, 0, none⟩) (2 * most) (2 * most)] T (0, 0)) := by rw [hw]; exact blk_far (blk_far (blk_far h.hd hne _) hne _) hne _
  have h2 : w1.heap[b]? = some (.cells (flat enc zv (sl.set f none)).toArray S (0, 0)) := by rw [hw]; exact blk_flat h.bk f none _ _ _ rfl hfl
  have hcl : c = ((items (sl.set f none)).length : Nat) := by rw [h.perm.length_eq]; omega
  refine ⟨by rw [← hcl]; exact blk_put h1 1 _ rfl, blk_far h2 (Ne.symm hne) _, h.hole.done h.e_lt hs, by rw [h.perm.length_eq]; exact hr, hpos, hbig, ?_⟩
  intro x hx
  obtain ⟨i, hi, he⟩ := (mem_items _ _).1 hx
  rw [at_set _ _ _ _ hfl] at he
  split at he
  · cases he
  · exact h.keys i x he
end
theorem c_drewN {w : World} {a : Addr} {v : Value} (h : w.cell? a = some v) (n : Nat) : (w.drewN n).cell? a = some v := (World.cell?_of_block (w := w) (w' := w.drewN n) rfl).trans h
theorem iinfo_slot : (Try.prog.info? 103).map (fun i => (i.zero, i.size, i.bytes)) = some (some (.agg #[.bool false, .string ⟨#[]⟩, .int .i64 0]), 3, 32) := by kernel_rfl
theorem imake_run (n : Nat) (hn : n ≤ 10000) (W : World) : (Instr.makeSlice 99 (.int .i64 (n : Int)) (.int .i64 (n : Int))).run Try.prog W = .ok (.slice (some ⟨W.heap.size, 0, none⟩) n n) (W.alloc (.cells (flat (Value.int .i64) (.int .i64 0) (List.replicate n (none : Option (Ent Int)))).toArray 103)) := by
  obtain ⟨i0, hi, hz⟩ := Option.map_eq_some_iff.1 iinfo_slot
  simp only [Prod.mk.injEq] at hz
  obtain ⟨hz0, hz1, hz2⟩ := hz
  have := run_make (P := Try.prog) W 99 103 i0 _ Try.underlying99 hi hz0 .i64 .i64 (n : Int) (n : Int) (by omega) (by omega) (by rw [hz2]; omega) (by omega)
  rw [this, hz1, Int.toNat_natCast]
  show _ = Result.ok _ (W.alloc (.cells _ 103))
  rw [← made_flat]
  rfl
theorem inew_any (n : Nat) (hn : 1 ≤ n) (hN : n ≤ 4096) (w : World) :
    Calls Try.prog 20 #[.int .i64 (n : Int)] w fun e w' => ∃ p b, e = .returned (.tuple #[.pointer (some ⟨p, 0, none⟩), .int .i64 0]) ∧ TabI w' p b n (List.replicate (2 * n) none) ∧ w.heap.size ≤ p ∧ w.heap.size ≤ b ∧ Frm (fun _ => False) w w' := by
  have c1 : decide ((n : Int) < 1) = false := decide_eq_false (by omega)
  have c1' : decide (n < 1) = false := decide_eq_false (by omega)
  have c2 : decide ((4096 : Int) < (n : Int)) = false := decide_eq_false (by omega)
  have c3 : decide (4096 < n) = false := decide_eq_false (by omega)
  have hmk := imake_run (2 * n) (by omega)
  have e2 : ((2 * n : Nat) : Int) = 2 * (n : Int) := by omega
  rw [e2] at hmk
  clear e2
  go_enter Try.func20, Try.ntmps20
  go_wp2
  go_ret2
  exact ⟨w.heap.size + 1, w.heap.size, rfl, tab_new n hn hN w, by omega, Nat.le_refl _, ((Frm.refl _ _).alloc _).alloc _⟩
theorem inew_bad (n : Int) (h : n < 1 ∨ 4096 < n) (w : World) :
    Calls Try.prog 20 #[.int .i64 n] w fun e w' => e = .returned (.tuple #[.pointer none, .int .i64 1]) ∧ w = w' := by
  by_cases h1 : n < 1
  · have c1 : decide (n < 1) = true := decide_eq_true h1
    go_enter Try.func20, Try.ntmps20
    go_wp2
    go_ret2
    exact ⟨rfl, rfl⟩
  · have c1 : decide (n < 1) = false := decide_eq_false h1
    have c2 : decide (4096 < n) = true := decide_eq_true (by omega)
    go_enter Try.func20, Try.ntmps20
    go_wp2
    go_ret2
    exact ⟨rfl, rfl⟩

end Go.Proofs.Ytjgoddieamphpaa.Obj
namespace Go.Proofs.Ytjgoddieamphpaa.Obj
open Go.RowKit Go.Proofs.YtjgoddieamphpaaW.PrintWords Go.Proofs.YtjgoddieamphpaaW.PrintLast Probe
set_option maxRecDepth 100000
set_option linter.unusedVariables false
theorem idrop_miss {p b most : Nat} {sl : List (Option (Ent Int))} {w : World} {key : ByteArray} (HT : TabI w p b most sl) (hs : key.size ≤ 9223372036854775807) (hm : ∀ v, (key, v) ∉ items sl) :
    Calls Try.prog 22 #[.pointer (some ⟨p, 0, none⟩), .string key] w fun e w' => e = .returned (.bool false) ∧ w = w' := by
  have HM := Lib.hid hm
  clear hm
  have HT := Aside0.mk HT
  go_enter Try.func22, Try.ntmps22
  go_wp2_with fail
  (with_reducible refine (iat_miss HT.out hs HM.out).mono ?_); rintro e w' ⟨rfl, rfl⟩
  go_wp2
  go_ret
  exact ⟨rfl, rfl⟩
theorem idrop_start {p b most : Nat} {sl : List (Option (Ent Int))} {w : World} {key : ByteArray} (HT : TabI w p b most sl) {i : Nat} {v : Int} (he : at_ sl i = some (key, v)) (hi : i < 2 * most) :
    ∃ z, Drp (α := Int) (Value.int .i64) (.int .i64 0) 101 103 w w p b most (items sl).length (items (sl.set i none)) sl i 1 z ∧ (items sl).length = (items (sl.set i none)).length + 1 := by
  have e1 := items_out sl i _ he
  have hlen : (items sl).length = (items (sl.set i none)).length + 1 := by rw [e1.length_eq]; rfl
  obtain ⟨z, hz1, hz2⟩ := free_ex sl (by rw [HT.len]; exact HT.free)
  rw [HT.len] at hz1
  have := HT.room; have := HT.pos
  exact ⟨z, ⟨HT.hd, HT.bk, Hole.start HT.wf hi he, List.Perm.refl _, by omega, hz1, hz2, ⟨_, he⟩, fun j x hx => HT.keys x (present (k := x.1) (v := x.2) hx), Frm.refl _ _⟩, hlen⟩
theorem idrop_hit {p b most : Nat} {sl : List (Option (Ent Int))} {w : World} {key : ByteArray} (HT : TabI w p b most sl) (hs : key.size ≤ 9223372036854775807) {i0 : Nat} {v0 : Int} (he : at_ sl i0 = some (key, v0)) (hi : i0 < 2 * most) :
    Calls Try.prog 22 #[.pointer (some ⟨p, 0, none⟩), .string key] w fun e w' => e = .returned (.bool true) ∧ (∃ sl', TabI w' p b most sl' ∧ (items sl').Perm (items (sl.set i0 none))) ∧ Frm (fun k => k = p ∨ k = b) w w' := by
  have HE := Lib.hid he
  have hN : 2 * most ≤ 10000 := by have := HT.big; omega
  have hn : 0 < 2 * most := by omega
  have hpb : p ≠ b := HT.ne (by decide)
  obtain ⟨z, hd0, hlen⟩ := idrop_start HT he hi
  have HD0 := Aside0.mk hd0
  have HL := Lib.hid hlen
  have HC := Lib.hid (show (items (sl.set i0 none)).length ≤ most by have := HT.room; omega)
  have HP := Lib.hid HT.pos
  have HB := Lib.hid HT.big
  clear hd0 hlen he
  have hc2 := HT.c2
  have HT := Aside0.mk HT
  have hlt : decide ((i0 : Int) < 0) = false := decide_eq_false (by omega)
  have E1 := Lib.hid (show (i0 + 1) % (2 * most) = cyc (2 * most) (i0 + 1) from mod_cyc _ _ (by omega))
  go_enter Try.func22, Try.ntmps22
  go_wp2_with fail
  (with_reducible refine (iat_hit HT.out hs HE.out hi).mono ?_); rintro e w' ⟨rfl, rfl⟩
  go_wp2_with fail
  (with_reducible refine (inext_any p b (2 * most) i0 _ hc2 hi hN).mono ?_); rintro e w' ⟨rfl, rfl⟩
  rw [E1.out]
  clear hlt
  go_wp2
  go_loopg [5, 6] (2 * most) (fun kq v5 v6 wr => ∃ (sl2 : List (Option (Ent Int))) (f e : Nat), v5 = .int .i64 (f : Nat) ∧ v6 = .int .i64 (cyc (2 * most) (f + e) : Nat) ∧ Aside0 (Drp (α := Int) (Value.int .i64) (.int .i64 0) 101 103 w wr p b most (items sl).length (items (sl.set i0 none)) sl2 f e z ∧ dist (2 * most) (cyc (2 * most) (f + e)) z < kq))
  case atStart => exact ⟨sl, i0, 1, rfl, rfl, ⟨HD0.out, by have := HD0.out.iN; have := HD0.out.zN; unfold dist; exact cyc_lt (by omega)⟩⟩
  case round =>
    obtain ⟨sl2, f, e, rfl, rfl, HD⟩ := hrel
    have hiN := HD.out.1.iN
    have hfN := HD.out.1.hole.fN
    have hc2 := HD.out.1.c2
    have hc1 := HD.out.1.c1
    have fz : wr.frozen? ⟨p, 1, none⟩ = false := blk_frozen HD.out.1.hd 1
    have hf : ∀ j, wr.frozen? ⟨b, j, none⟩ = false := fun j => blk_frozen HD.out.1.bk j
    have f0 := hf (f * 3)
    have f1 := hf (f * 3 + 1)
    have f2 := hf (f * 3 + 2)
    clear hf
    obtain ⟨a0, a1, a2, hq0, hq1, hq2⟩ := HD.out.1.old_at
    cases hx : at_ sl2 (cyc (2 * most) (f + e)) with
    | none =>
      have HX := Lib.hid hx
      have h0 := HD.out.1.none_at hiN hx
      clear hx
      generalize hci : cyc (2 * most) (f + e) = i at *
      have HI := Lib.hid hci
      clear hci
      go_wp2
      go_ret
      exact ⟨rfl, ⟨sl2.set f none, HD.out.1.done (by decide) (by rw [HI.out]; exact HX.out) HL.out HP.out HB.out HC.out rfl _ (by have := HL.out; have := HC.out; have := HB.out; unfold wrap64; omega), HD.out.1.perm⟩, HD.out.1.frm.trans ((frm3 wr p b f _ _ _).setCell (.inl (.inl rfl)) _)⟩
    | some x =>
      obtain ⟨k2, v⟩ := x
      have HX := Lib.hid hx
      have hks := HD.out.1.keys _ _ hx
      obtain ⟨h0, h1, h2⟩ := HD.out.1.some_at hiN hx
      have HDE := Lib.hid (dist_at (2 * most) f e hfN HD.out.1.e_lt)
      have HNX := Lib.hid (cyc_next (2 * most) f e hfN HD.out.1.e_lt)
      have hsm := slotN_lt k2 (2 * most) hn
      have hzi : cyc (2 * most) (f + e) ≠ z := by
        intro hh; have := HD.out.1.zf; rw [← hh, hx] at this; cases this
      have HLE := Lib.hid (dist_less (2 * most) _ z hiN HD.out.1.zN hzi)
      clear hx hzi
      by_cases hd : dist (2 * most) (slotN k2 (2 * most)) (cyc (2 * most) (f + e)) < e
      · have HST := Aside0.mk (HD.out.1.stay HX.out hd)
        have g1 : decide ((e : Int) ≤ (dist (2 * most) (slotN k2 (2 * most)) (cyc (2 * most) (f + e)) : Nat)) = false := decide_eq_false (by omega)
        have g2 : decide (e ≤ dist (2 * most) (slotN k2 (2 * most)) (cyc (2 * most) (f + e))) = false := decide_eq_false (by omega)
        have HCY := Lib.hid (show cyc (2 * most) (f + e) = cyc (2 * most) (f + e) from rfl)
        generalize hci : cyc (2 * most) (f + e) = i at *
        have HI := Lib.hid hci
        clear hci hd HCY
        generalize hdd : dist (2 * most) (slotN k2 (2 * most)) i = D at *
        have HDD := Lib.hid hdd
        clear hdd
        go_wp2_with fail
        (with_reducible refine (ihome_any p b (2 * most) k2 _ hc2 hks hn hN).mono ?_); rintro e1 w1 ⟨rfl, rfl⟩
        go_wp2_with fail
        (with_reducible refine (iaway_any p b (2 * most) _ i _ hc2 hsm hiN hN).mono ?_); rintro e1 w1 ⟨rfl, n1, rfl⟩
        rw [HDD.out]
        go_wp2_with fail
        (with_reducible refine (iaway_any p b (2 * most) f i _ (c_drewN hc2 n1) hfN hiN hN).mono ?_); rintro e1 w1 ⟨rfl, n2, rfl⟩
        rw [HDE.out]
        go_wp2_with fail
        (with_reducible refine (inext_any p b (2 * most) i _ (c_drewN hc2 (n1 + n2)) hiN hN).mono ?_); rintro e1 w1 ⟨rfl, rfl⟩
        rw [HNX.out]
        go_wp2
        go_roundg (gk - 1)
        case measure => have := HD.out.2; omega
        case rel => exact ⟨sl2, f, e + 1, rfl, rfl, ⟨HST.out.drewN (n1 + n2), by have := HD.out.2; have := HLE.out; rw [HNX.out] at this; omega⟩⟩
      · have hd' : e ≤ dist (2 * most) (slotN k2 (2 * most)) (cyc (2 * most) (f + e)) := by omega
        have g1 : decide ((e : Int) ≤ (dist (2 * most) (slotN k2 (2 * most)) (cyc (2 * most) (f + e)) : Nat)) = true := decide_eq_true (by omega)
        have g2 : decide (e ≤ dist (2 * most) (slotN k2 (2 * most)) (cyc (2 * most) (f + e))) = true := decide_eq_true (by omega)
        have HDP := Lib.hid hd'
        clear hd hd'
        have HI2 := Lib.hid (show ∀ j, cyc (2 * most) (f + e) = j → cyc (2 * most) (f + e) = j from fun _ h => h)
        generalize hci : cyc (2 * most) (f + e) = i at *
        have HI := Lib.hid hci
        clear hci HI2
        generalize hdd : dist (2 * most) (slotN k2 (2 * most)) i = D at *
        have HDD := Lib.hid hdd
        clear hdd
        go_wp2_with fail
        (with_reducible refine (ihome_any p b (2 * most) k2 _ hc2 hks hn hN).mono ?_); rintro e1 w1 ⟨rfl, rfl⟩
        go_wp2_with fail
        (with_reducible refine (iaway_any p b (2 * most) _ i _ hc2 hsm hiN hN).mono ?_); rintro e1 w1 ⟨rfl, n1, rfl⟩
        rw [HDD.out]
        go_wp2_with fail
        (with_reducible refine (iaway_any p b (2 * most) f i _ (c_drewN hc2 n1) hfN hiN hN).mono ?_); rintro e1 w1 ⟨rfl, n2, rfl⟩
        rw [HDE.out]
        go_wp2
        go_region
        have HSH := Aside0.mk (HD.out.1.shift (w1 := ((((wr.drewN (n1 + n2 + 1)).setCell ⟨b, f * 3, none⟩ (.bool true)).setCell ⟨b, f * 3 + 1, none⟩ (.string k2)).setCell ⟨b, f * 3 + 2, none⟩ (Value.int .i64 v))) (by decide) (by rw [HI.out]; exact HX.out) (by rw [HI.out, HDD.out]; exact HDP.out) rfl (((((Frm.refl _ wr).drewN _).setCell (.inl (.inr rfl)) _).setCell (.inl (.inr rfl)) _).setCell (.inl (.inr rfl)) _))
        rw [HI.out] at HSH
        have HN2 := Lib.hid (show (i + 1) % (2 * most) = cyc (2 * most) (i + 1) from mod_cyc _ _ (by omega))
        have hcx := HSH.out.c2
        go_wp2_with fail
        (with_reducible refine (inext_any p b (2 * most) i _ hcx hiN hN).mono ?_); rintro e1 w1 ⟨rfl, rfl⟩
        rw [HN2.out]
        go_wp2
        go_roundg (gk - 1)
        case measure => have := HD.out.2; omega
        case rel => exact ⟨sl2.set f (some (k2, v)), i, 1, rfl, rfl, ⟨HSH.out, by have := HD.out.2; have := HLE.out; rw [HN2.out] at this; omega⟩⟩

end Go.Proofs.Ytjgoddieamphpaa.Obj
namespace Go.Proofs.Ytjgoddieamphpaa.Obj
open Go.RowKit Go.Proofs.YtjgoddieamphpaaW.PrintWords Go.Proofs.YtjgoddieamphpaaW.PrintLast Probe Go.Proofs.Ytjgoddieamphpaa.PProbeActs
set_option maxRecDepth 100000
set_option linter.unusedVariables false
/-! The document's table: a row of keys and numbers. -/
def pr (c : S98) : Ent Int := (c.f0, c.f1)
/-- where a key stands -/
def idx : List S98 → ByteArray → Option Nat
  | [], _ => none
  | c :: t, k => if c.f0 = k then some 0 else (idx t k).map (· + 1)
def fnd (L : List S98) (k : ByteArray) : Int := match idx L k with | some i => (i : Int) | none => -1
theorem idx_some : ∀ {L : List S98} {k : ByteArray} {i : Nat}, idx L k = some i → i < L.length ∧ (L.getD i z98).f0 = k
  | [], _, _, h => by cases h
  | c :: t, k, i, h => by
    unfold idx at h
    split at h
    · obtain rfl := Option.some.inj h
      exact ⟨by simp, by simpa using ‹_›⟩
    · obtain ⟨j, hj, rfl⟩ := Option.map_eq_some_iff.1 h
      obtain ⟨h1, h2⟩ := idx_some hj
      exact ⟨by simp; omega, by simpa using h2⟩
theorem idx_none : ∀ {L : List S98} {k : ByteArray}, idx L k = none → ∀ c ∈ L, c.f0 ≠ k
  | [], _, _ => by simp
  | c :: t, k, h => by
    unfold idx at h
    split at h
    · cases h
    · rename_i hne
      intro d hd
      rcases List.mem_cons.1 hd with rfl | hd
      · exact hne
      · exact idx_none (Option.map_eq_none_iff.1 h) d hd
theorem bytes_eq_iff (a b : ByteArray) : a.toList = b.toList ↔ a = b := by
  constructor
  · intro e
    apply Classical.byContradiction
    intro h; exact bytes_ne h e
  · rintro rfl; rfl
theorem find_l0 (L : List S98) (k : ByteArray) (hN : L.length ≤ 1000000) : ∀ (n i K : Nat), i + n = L.length → n < K → turncockref20_find.l0 K L k (i : Int) = some (match idx (L.drop i) k with | some j => ((i + j : Nat) : Int) | none => -1) := by
  intro n
  induction n with
  | zero =>
    intro i K hi hK
    obtain ⟨K, rfl⟩ : ∃ m, K = m + 1 := ⟨K - 1, by omega⟩
    simp only [turncockref20_find.l0]
    rw [if_neg (by omega), List.drop_eq_nil_of_le (by omega)]
    rfl
  | succ n ih =>
    intro i K hi hK
    obtain ⟨K, rfl⟩ : ∃ m, K = m + 1 := ⟨K - 1, by omega⟩
    have hlt : i < L.length := by omega
    have w1 : wrap64 ((i : Int) + 1) = ((i + 1 : Nat) : Int) := by unfold wrap64; omega
    have hrd : rd_T98 L (i : Int) = L[i] := by
      unfold rd_T98
      rw [Int.toNat_natCast, List.getD_eq_getElem?_getD, List.getElem?_eq_getElem hlt]; rfl
    simp only [turncockref20_find.l0]
    rw [if_pos (by omega), if_pos (by omega), hrd, w1, List.drop_eq_getElem_cons hlt]
    by_cases h : L[i].f0 = k
    · rw [if_pos ((bytes_eq_iff _ _).2 h), show idx (L[i] :: L.drop (i + 1)) k = some 0 from if_pos h]; rfl
    · rw [if_neg (fun e => h ((bytes_eq_iff _ _).1 e)), ih (i + 1) K (by omega) (by omega), show idx (L[i] :: L.drop (i + 1)) k = (idx (L.drop (i + 1)) k).map (· + 1) from if_neg h]
      cases idx (L.drop (i + 1)) k with
      | none => rfl
      | some j =>
        show some (((i + 1 + j : Nat)) : Int) = some ((i + (j + 1) : Nat) : Int)
        rw [show i + 1 + j = i + (j + 1) by omega]
theorem find_f (L : List S98) (k : ByteArray) (hN : L.length ≤ 1000000) : turncockref20_find.f (L.length + 1) L k = some (fnd L k) := by
  have := find_l0 L k hN L.length 0 (L.length + 1) (by omega) (by omega)
  unfold turncockref20_find.f fnd
  have e : ((0 : Nat) : Int) = 0 := rfl
  rw [e, List.drop_zero] at this
  rw [this]
  cases idx L k with
  | none => rfl
  | some j => simp
/-- a row without one place -/
def dropAt (L : List S98) (i : Nat) : List S98 := L.take i ++ L.drop (i + 1)
theorem drop_f (L : List S98) (i : Nat) (hN : L.length ≤ 1000000) (hi : i < L.length) : turncockref20_drop.f L (i : Int) = some (dropAt L i) := by
  unfold turncockref20_drop.f dropAt
  have w1 : wrap64 ((i : Int) + 1) = ((i + 1 : Nat) : Int) := by unfold wrap64; omega
  simp only [Option.bind_some, w1, Int.toNat_natCast]
  have l1 : (L.take i).length ≤ L.length := by rw [List.length_take]; omega
  have l2 : (L.drop (i + 1)).length ≤ L.length := by rw [List.length_drop]; omega
  rw [if_pos (by omega), if_pos (by omega), if_pos (by simp; omega), if_pos (by omega), if_pos (by omega), if_pos (by simp; omega)]
  simp
theorem find_any (L : List S98) (k : ByteArray) (hN : L.length ≤ 1000000) (A : Option Addr) (c : Nat) (w : World) (hr : Kd.C k98 w A L.length L) (hc : L.length ≤ c) :
    Calls Try.prog 65 #[.slice A L.length c, .string k] w fun e w' => e = .returned (.int .i64 (fnd L k)) ∧ ∃ n, w' = w.drewN n := by
  refine (turncockref20_find.calls (L.length + 1) A c L k (fnd L k) w hr hc (find_f L k hN)).mono ?_
  rintro e w' ⟨he, ⟨n, hn⟩⟩
  exact ⟨he, n, hn⟩
/-- The document's table in memory. -/
structure RM (w : World) (m most : Nat) (L : List S98) (v : Value) : Prop where
  hd : w.heap[m]? = some (.cells #[.int .i64 most, v] 31 (0, 0))
  row : Kd.R k98 98 w 0 (fun _ => True) v L
  few : L.length ≤ 10000
theorem RM.c0 {w : World} {m most : Nat} {L : List S98} {v : Value} (h : RM w m most L v) : w.cell? ⟨m, 0, none⟩ = some (.int .i64 most) := (blk_cell h.hd 0).trans rfl
theorem RM.c1 {w : World} {m most : Nat} {L : List S98} {v : Value} (h : RM w m most L v) : w.cell? ⟨m, 1, none⟩ = some v := (blk_cell h.hd 1).trans rfl
theorem RM.drewN {w : World} {m most : Nat} {L : List S98} {v : Value} (h : RM w m most L v) (n : Nat) : RM (w.drewN n) m most L v := ⟨h.hd, Kd.R_move h.row (fun _ _ => rfl), h.few⟩
/-- Writes to blocks of other types leave it alone. -/
theorem RM.frm {w w1 : World} {m most : Nat} {L : List S98} {v : Value} (h : RM w m most L v) {F : Nat → Prop} (k : Frm F w w1) (hF : ∀ b, F b → b < w.heap.size → ∃ cs t, w.heap[b]? = some (.cells cs t (0, 0)) ∧ t ≠ 31 ∧ t ≠ 98) : RM w1 m most L v := by
  refine ⟨k.blk h.hd ?_, Kd.R_mono (Kd.R_step (Kd.R_bound h.row) ?_) (fun _ _ => trivial), h.few⟩
  · intro hf
    obtain ⟨cs, t, hb, h1, _⟩ := hF m hf (blk_lt h.hd)
    rw [h.hd] at hb
    injection hb with hb; injection hb with _ hb _
    exact h1 hb.symm
  · rintro b ⟨_, _, _, q, hq, cells, hc⟩ hlt
    refine k.block b hlt fun hf => ?_
    obtain ⟨cs, t, hb, _, h2⟩ := hF b hf hlt
    rw [hc] at hb
    injection hb with hb; injection hb with _ hb _
    have : q = 98 := by simpa [k98, Kd.iso, Kd.pair, Kd.string, Kd.int, Kd.scalar] using hq
    exact h2 (hb ▸ this)
def getV (L : List S98) (k : ByteArray) : Int := match idx L k with | some i => (L.getD i z98).f1 | none => 0
def hasB (L : List S98) (k : ByteArray) : Bool := (idx L k).isSome
theorem rget_any {w : World} {m most : Nat} {L : List S98} {v : Value} (h : RM w m most L v) (k : ByteArray) :
    Calls Try.prog 18 #[.pointer (some ⟨m, 0, none⟩), .string k] w fun e w' => e = .returned (.tuple #[.int .i64 (getV L k), .bool (hasB L k)]) ∧ ∃ n, w' = w.drewN n := by
  obtain ⟨A, c, rfl, hl, hr⟩ := Kd.R_reads h.row
  have hc1 := h.c1
  have hN := Lib.hid (show L.length ≤ 1000000 by have := h.few; omega)
  have hr := Aside0.mk hr
  have hl := Lib.hid hl
  cases hi : idx L k with
  | none =>
    have e1 := Lib.hid (show fnd L k = -1 by unfold fnd; rw [hi])
    have e2 := Lib.hid (show getV L k = 0 by unfold getV; rw [hi])
    have e3 := Lib.hid (show hasB L k = false by unfold hasB; rw [hi]; rfl)
    clear hi
    go_enter Try.func18, Try.ntmps18
    go_wp2_with fail
    (with_reducible refine (find_any L k hN.out A c _ hr.out hl.out).mono ?_); rintro e w' ⟨rfl, n, rfl⟩
    rw [e1.out]
    go_wp2
    go_ret2
    exact ⟨by rw [e2.out, e3.out]; rfl, n, rfl⟩
  | some i =>
    have e1 := Lib.hid (show fnd L k = i by unfold fnd; rw [hi])
    have e2 := Lib.hid (show getV L k = (rd_T98 L (i : Int)).f1 by unfold getV rd_T98; rw [hi, Int.toNat_natCast])
    have e3 := Lib.hid (show hasB L k = true by unfold hasB; rw [hi]; rfl)
    obtain ⟨hlt, _⟩ := idx_some hi
    obtain ⟨ad, rfl, q0, q1, q2⟩ := at_T98 hr.out (i : Int) (by omega) (by omega)
    have g1 : decide ((i : Int) < 0) = false := decide_eq_false (by omega)
    rw [Int.toNat_natCast] at q0 q1 q2
    clear hi
    go_enter Try.func18, Try.ntmps18
    go_wp2_with fail
    (with_reducible refine (find_any L k hN.out _ c _ hr.out hl.out).mono ?_); rintro e w' ⟨rfl, n, rfl⟩
    rw [e1.out]
    go_wp2
    go_ret2
    exact ⟨by rw [e2.out, e3.out]; rfl, n, rfl⟩
end Go.Proofs.Ytjgoddieamphpaa.Obj
namespace Go.Proofs.Ytjgoddieamphpaa.Obj
open Go.RowKit Go.Proofs.YtjgoddieamphpaaW.PrintWords Go.Proofs.YtjgoddieamphpaaW.PrintLast Probe Go.Proofs.Ytjgoddieamphpaa.PProbeActs
set_option maxRecDepth 100000
set_option linter.unusedVariables false
theorem drop_any (L : List S98) (i : Nat) (hN : L.length ≤ 1000000) (hi : i < L.length) (A : Option Addr) (c : Nat) (w : World) (hr : Kd.C k98 w A L.length L) (hc : L.length ≤ c) :
    Calls Try.prog 72 #[.slice A L.length c, .int .i64 (i : Int)] w fun e w' => ∃ v, e = .returned v ∧ Kd.R k98 98 w' w.heap.size (fun _ => True) v (dropAt L i) ∧ Below w.heap.size w w' :=
  turncockref20_drop.calls A c L (i : Int) (dropAt L i) w hr hc (drop_f L i hN hi)
theorem k98_ty : ∀ q, q ∈ 98 :: k98.E → q ≠ 31 := by
  intro q hq
  have : q = 98 := by simpa [k98, Kd.iso, Kd.pair, Kd.string, Kd.int, Kd.scalar] using hq
  omega
/-- A row is laid anew into the head. -/
theorem RM.lay {w w1 : World} {m most : Nat} {L L' : List S98} {v v' : Value} {base : Nat} (h : RM w m most L v) (hb : Below w.heap.size w w1) (hr : Kd.R k98 98 w1 base (fun _ => True) v' L') (hl : L'.length ≤ 10000) : RM (w1.setCell ⟨m, 1, none⟩ v') m most L' v' :=
  ⟨blk_put (blk_below h.hd hb) 1 v' rfl, Kd.R_lower (Kd.R_set hr (blk_below h.hd hb) k98_ty 1 v') (Nat.zero_le _), hl⟩
theorem frm_lay {w w1 : World} {m : Nat} (h : Frm (fun b => b = m) w w1) (v : Value) : Frm (fun b => b = m) w (w1.setCell ⟨m, 1, none⟩ v) := h.setCell (.inl rfl) _
theorem rdrop_any {w : World} {m most : Nat} {L : List S98} {v : Value} (h : RM w m most L v) (k : ByteArray) :
    Calls Try.prog 48 #[.pointer (some ⟨m, 0, none⟩), .string k] w fun e w' => e = .returned (.bool (hasB L k)) ∧ (∃ v', RM w' m most (match idx L k with | some i => dropAt L i | none => L) v') ∧ Frm (fun b => b = m) w w' := by
  obtain ⟨A, c, rfl, hl, hr⟩ := Kd.R_reads h.row
  have hc1 := h.c1
  have hN := Lib.hid (show L.length ≤ 1000000 by have := h.few; omega)
  have hr := Aside0.mk hr
  have hl := Lib.hid hl
  have HH := Aside0.mk h
  have f1 : w.frozen? ⟨m, 1, none⟩ = false := blk_frozen h.hd 1
  cases hi : idx L k with
  | none =>
    have e1 := Lib.hid (show fnd L k = -1 by unfold fnd; rw [hi])
    have e3 := Lib.hid (show hasB L k = false by unfold hasB; rw [hi]; rfl)
    clear hi
    go_enter Try.func48, Try.ntmps48
    go_wp2_with fail
    (with_reducible refine (find_any L k hN.out A c _ hr.out hl.out).mono ?_); rintro e w' ⟨rfl, n, rfl⟩
    rw [e1.out]
    go_wp2
    go_ret
    exact ⟨by rw [e3.out]; rfl, ⟨_, HH.out.drewN n⟩, (Frm.refl _ _).drewN n⟩
  | some i =>
    have e1 := Lib.hid (show fnd L k = i by unfold fnd; rw [hi])
    have e3 := Lib.hid (show hasB L k = true by unfold hasB; rw [hi]; rfl)
    obtain ⟨hlt, _⟩ := idx_some hi
    have hlt := Lib.hid hlt
    have g1 : decide ((i : Int) < 0) = false := decide_eq_false (by omega)
    clear hi
    go_enter Try.func48, Try.ntmps48
    go_wp2_with fail
    (with_reducible refine (find_any L k hN.out _ c _ hr.out hl.out).mono ?_); rintro e w' ⟨rfl, n, rfl⟩
    rw [e1.out]
    go_wp2_with fail
    (with_reducible refine (drop_any L i hN.out hlt.out _ c _ (Kd.C_below hr.out (pw_below_drewN (Below.refl _ w) n)) hl.out).mono ?_); rintro e w1 ⟨v', rfl, hv, hb⟩
    obtain ⟨A', c', rfl⟩ := Kd.R_slice hv
    have HV := Aside0.mk hv
    have HB := Aside0.mk hb
    have hc1' : w1.cell? ⟨m, 1, none⟩ = some (.slice A L.length c) := pw_cell_below hb (c_drewN hc1 n)
    have f1' : w1.frozen? ⟨m, 1, none⟩ = false := blk_frozen (blk_below (blk_drewN HH.out.hd n) hb) 1
    clear hv hb
    go_wp2
    go_ret
    exact ⟨by rw [e3.out]; rfl, ⟨_, (HH.out.drewN n).lay HB.out HV.out (by unfold dropAt; rw [List.length_append, List.length_take, List.length_drop]; have := HH.out.few; omega)⟩, frm_lay (((Frm.refl _ w).drewN n).trans (Frm.of_below HB.out)) _⟩
/-- what a put leaves, and what it tells -/
def putL (L : List S98) (most : Nat) (k : ByteArray) (v : Int) : List S98 := match idx L k with
  | some i => L.set i ⟨(L.getD i z98).f0, v, (L.getD i z98).f2⟩
  | none => if most ≤ L.length then L else L ++ [⟨k, v, 0⟩]
def putC (L : List S98) (most : Nat) (k : ByteArray) : Int := match idx L k with
  | some _ => 0
  | none => if most ≤ L.length then 6 else 0
theorem rput_full {w : World} {m most : Nat} {L : List S98} {v : Value} (h : RM w m most L v) (k : ByteArray) (x : Int) (hi : idx L k = none) (hf : most ≤ L.length) :
    Calls Try.prog 16 #[.pointer (some ⟨m, 0, none⟩), .string k, .int .i64 x] w fun e w' => e = .returned (.int .i64 6) ∧ RM w' m most L v ∧ Frm (fun b => b = m) w w' := by
  obtain ⟨A, c, rfl, hl, hr⟩ := Kd.R_reads h.row
  have hc1 := h.c1
  have hc0 := h.c0
  have hN := Lib.hid (show L.length ≤ 1000000 by have := h.few; omega)
  have hr := Aside0.mk hr
  have hl := Lib.hid hl
  have HH := Aside0.mk h
  have e1 := Lib.hid (show fnd L k = -1 by unfold fnd; rw [hi])
  have g1 : decide ((most : Int) ≤ (L.length : Int)) = true := decide_eq_true (by omega)
  have g2 : decide (most ≤ L.length) = true := decide_eq_true hf
  clear hi hf
  go_enter Try.func16, Try.ntmps16
  go_wp2_with fail
  (with_reducible refine (find_any L k hN.out A c _ hr.out hl.out).mono ?_); rintro e w' ⟨rfl, n, rfl⟩
  rw [e1.out]
  go_wp2
  go_quiet (fail)
  go_wp2
  go_ret
  exact ⟨rfl, (HH.out.drewN n).drewN nq, ((Frm.refl _ _).drewN n).drewN nq⟩
theorem rput_new {w : World} {m most : Nat} {L : List S98} {v : Value} (h : RM w m most L v) (k : ByteArray) (x : Int) (hi : idx L k = none) (hf : L.length < most) (hmost : most ≤ 5000) :
    Calls Try.prog 16 #[.pointer (some ⟨m, 0, none⟩), .string k, .int .i64 x] w fun e w' => e = .returned (.int .i64 0) ∧ (∃ v', RM w' m most (L ++ [⟨k, x, 0⟩]) v') ∧ Frm (fun b => b = m) w w' := by
  obtain ⟨A, c, rfl, hl, hr⟩ := Kd.R_reads h.row
  have hc1 := h.c1
  have hc0 := h.c0
  have hN := Lib.hid (show L.length ≤ 1000000 by have := h.few; omega)
  have hr := Aside0.mk hr
  have hl := Lib.hid hl
  have HH := Aside0.mk h
  have e1 := Lib.hid (show fnd L k = -1 by unfold fnd; rw [hi])
  have g1 : decide ((most : Int) ≤ (L.length : Int)) = false := decide_eq_false (by omega)
  have g2 : decide (most ≤ L.length) = false := decide_eq_false (by omega)
  clear hi
  have hf := Lib.hid hf
  go_enter Try.func16, Try.ntmps16
  go_wp2_with fail
  (with_reducible refine (find_any L k hN.out A c _ hr.out hl.out).mono ?_); rintro e w' ⟨rfl, n, rfl⟩
  rw [e1.out]
  go_wp2
  go_quiet (fail)
  go_wp2_with (first | ((with_reducible refine gate_dst (N := 44) rfl ?_); refine Kd.R_lit k98 _ 98 ?hg (N := 44) ?hd (xs := ([] : List S98)) (inner := []) (ok := fun _ => True) (okp := fun _ => True) ?hr ?hp (fun _ hk => hk) trivial (Below.refl _ _) (Nat.le_refl _) (by simp) ?_; (case hd => rfl); (case hg => rfl); (case hr => first | (go_simp; done) | (go_simp; rfl)); (case hp => exact (Reps.none _ _)); intro v1 w1 hv1 hb1 hg1 hx1; have HV1 := Aside0.mk hv1; have HB1 := Aside0.mk hb1; have hc1b := pw_cell_below hb1 (c_drewN (c_drewN hc1 n) nq); clear hv1 hb1 hg1 hx1) | (at_builtin; refine Kd.R_append_rows k98 _ rfl (.tmp 44) (.tmp 48) 29 98 (.agg #[(.string ⟨#[]⟩), (.int .i64 0), (.int .i64 0)]) 32 rfl Try.underlying29 info98 rfl (by decide) (by omega) v1 ([] : List S98) L A L.length c (fun _ => True) (fun _ => False) rfl rfl HV1.out (Kd.C_below (Kd.C_below hr.out (pw_below_drewN (pw_below_drewN (Below.refl _ w) n) nq)) HB1.out) (fun y cs hy => by rw [k98_open hy]; exact k98_mkM _ _ _ _) (fun _ h => h.elim) (fun _ _ => trivial) HB1.out HB1.out.size (by have := hN.out; simp only [List.length_nil]; omega) ?_; intro v2 w2 hv2 hb2 hg2 hx2; have HV2 := Aside0.mk hv2; have HB2 := Aside0.mk hb2; have HS2 := Aside0.mk hg2.size; clear hv2 hb2 hg2 hx2) | (at_builtin; refine Kd.R_append k98 _ rfl (.tmp 49) (.tmp 53) 29 98 (.agg #[(.string ⟨#[]⟩), (.int .i64 0), (.int .i64 0)]) 32 rfl Try.underlying29 info98 rfl (by decide) (by omega) v2 (([] : List S98) ++ L) ⟨k, x, 0⟩ [.string k, .int .i64 x, .int .i64 0] (fun _ => True) (fun _ => False) rfl rfl (k98_mkM _ _ _ _) (fun _ h => h.elim) (fun _ _ => trivial) HV2.out HB2.out HB2.out.size (by have := hN.out; simp only [List.nil_append]; omega) ?_; intro v3 w3 hv3 hb3 hg3 hx3; obtain ⟨A3, c3, rfl⟩ := Kd.R_slice hv3; have HV3 := Aside0.mk hv3; have HB3 := Aside0.mk hb3; have hc1d := pw_cell_below hb3 (c_drewN (c_drewN hc1 n) nq); have f1d := blk_frozen (blk_below (blk_drewN (blk_drewN HH.out.hd n) nq) hb3) 1; clear hv3 hb3 hg3 hx3))
  go_ret
  have hv := HV3.out
  rw [List.nil_append] at hv
  have hlen : (L ++ [(⟨k, x, 0⟩ : S98)]).length = L.length + 1 := by simp
  rw [hlen] at hv
  exact ⟨rfl, ⟨_, ((HH.out.drewN n).drewN nq).lay HB3.out hv (by rw [hlen]; have := hf.out; omega)⟩, frm_lay ((((Frm.refl _ w).drewN n).drewN nq).trans (Frm.of_below HB3.out)) _⟩
end Go.Proofs.Ytjgoddieamphpaa.Obj
namespace Go.Proofs.Ytjgoddieamphpaa.Obj
open Go.RowKit Go.Proofs.YtjgoddieamphpaaW.PrintWords Go.Proofs.YtjgoddieamphpaaW.PrintLast Probe Go.Proofs.Ytjgoddieamphpaa.PProbeActs
set_option maxRecDepth 100000
set_option linter.unusedVariables false
/-- The one element's cells, and that they may be written. -/
theorem row_at {w : World} {base g n cap : Nat} {ok : Nat → Prop} {L : List S98} (h : Kd.R k98 98 w base ok (.slice (some ⟨g, 0, none⟩) n cap) L) (i : Nat) (hi : i < L.length) :
    w.cell? ⟨g, i * 3, none⟩ = some (.string (L.getD i z98).f0) ∧ w.cell? ⟨g, i * 3 + 1, none⟩ = some (.int .i64 (L.getD i z98).f1) ∧ w.cell? ⟨g, i * 3 + 2, none⟩ = some (.int .i64 (L.getD i z98).f2) ∧ (∀ j, w.frozen? ⟨g, j, none⟩ = false) ∧ n = L.length := by
  obtain ⟨A5, c5, e5, _, h5⟩ := Kd.R_reads h
  injection e5 with ea en ec
  subst ea
  obtain ⟨ad5, ed, q0, q1, q2⟩ := at_T98 h5 (i : Int) (by omega) (by omega)
  obtain rfl : (⟨g, 0, none⟩ : Addr) = ad5 := Option.some.inj ed
  rw [Int.toNat_natCast] at q0 q1 q2
  simp only [add_plain] at q0 q1 q2
  have hr : rd_T98 L (i : Int) = L.getD i z98 := by unfold rd_T98; rw [Int.toNat_natCast]
  rw [hr] at q0 q1 q2
  refine ⟨q0, q1, q2, fun j => ?_, en⟩
  obtain ⟨inner, hown⟩ := Kd.R_own h
  rcases hown.2 with ⟨hv, _⟩ | ⟨g', cap', cur, hv, _, hh, _⟩
  · cases hv
  · injection hv with ha _ _
    injection ha with ha
    injection ha with hg
    subst hg
    exact blk_frozen hh j
/-- A number is stored into an element. -/
theorem row_set {w : World} {base g n cap : Nat} {L : List S98} (h : Kd.R k98 98 w base (fun _ => True) (.slice (some ⟨g, 0, none⟩) n cap) L) (i : Nat) (hi : i < L.length) (x : Int) :
    Kd.R k98 98 (w.setCell ⟨g, i * 3 + 1, none⟩ (.int .i64 x)) base (fun _ => True) (.slice (some ⟨g, 0, none⟩) n cap) (L.set i ⟨(L.getD i z98).f0, x, (L.getD i z98).f2⟩) ∧ w.grownBy (w.setCell ⟨g, i * 3 + 1, none⟩ (.int .i64 x)) (some g) := by
  obtain ⟨q0, q1, q2, _, hn⟩ := row_at h i hi
  have := Kd.R_seg (okp := fun _ => False) h (i : Int) (by omega) (by omega) (c := [.string (L.getD i z98).f0, .int .i64 (L.getD i z98).f1, .int .i64 (L.getD i z98).f2]) (seg := [.int .i64 x]) (j := 1) (x' := ⟨(L.getD i z98).f0, x, (L.getD i z98).f2⟩) rfl
    (by
      intro j u hu
      rw [Int.toNat_natCast]
      match j, hu with
      | 0, hu => obtain rfl := Option.some.inj hu; exact q0
      | 1, hu => obtain rfl := Option.some.inj hu; exact q1
      | 2, hu => obtain rfl := Option.some.inj hu; exact q2
      | j + 3, hu => simp at hu) (show 1 + 1 ≤ 3 by omega) (k98_mkM _ _ _ _) (fun _ h => h.elim)
  rw [Int.toNat_natCast] at this
  exact this
theorem rput_set {w : World} {m most : Nat} {L : List S98} {v : Value} (h : RM w m most L v) (k : ByteArray) (x : Int) (i : Nat) (hi : idx L k = some i) :
    Calls Try.prog 16 #[.pointer (some ⟨m, 0, none⟩), .string k, .int .i64 x] w fun e w' => e = .returned (.int .i64 0) ∧ (∃ v', RM w' m most (L.set i ⟨(L.getD i z98).f0, x, (L.getD i z98).f2⟩) v') ∧ Frm (fun b => b = m) w w' := by
  obtain ⟨A, c, rfl, hl, hr⟩ := Kd.R_reads h.row
  have hc1 := h.c1
  have hc0 := h.c0
  have f1 : w.frozen? ⟨m, 1, none⟩ = false := blk_frozen h.hd 1
  have hN := Lib.hid (show L.length ≤ 1000000 by have := h.few; omega)
  have hr := Aside0.mk hr
  have hl := Lib.hid hl
  have HH := Aside0.mk h
  have e1 := Lib.hid (show fnd L k = i by unfold fnd; rw [hi])
  obtain ⟨hlt, _⟩ := idx_some hi
  have g1 : decide ((i : Int) < 0) = false := decide_eq_false (by omega)
  have g2 : decide ((0 : Int) ≤ (i : Int)) = true := decide_eq_true (by omega)
  clear hi
  go_enter Try.func16, Try.ntmps16
  go_wp2_with fail
  (with_reducible refine (find_any L k hN.out A c _ hr.out hl.out).mono ?_); rintro e w' ⟨rfl, n, rfl⟩
  rw [e1.out]
  go_wp2_with (first | ((with_reducible refine gate_dst (N := 17) rfl ?_); refine Kd.R_lit k98 _ 98 ?hg (N := 17) ?hd (xs := ([] : List S98)) (inner := []) (ok := fun _ => True) (okp := fun _ => True) ?hr ?hp (fun _ hk => hk) trivial (Below.refl _ _) (Nat.le_refl _) (by simp) ?_; (case hd => rfl); (case hg => rfl); (case hr => first | (go_simp; done) | (go_simp; rfl)); (case hp => exact (Reps.none _ _)); intro v1 w1 hv1 hb1 hg1 hx1; have HV1 := Aside0.mk hv1; have HB1 := Aside0.mk hb1; have hc1b := pw_cell_below hb1 (c_drewN hc1 n); clear hv1 hb1 hg1 hx1) | (at_builtin; refine Kd.R_append_rows k98 _ rfl (.tmp 17) (.tmp 21) 29 98 (.agg #[(.string ⟨#[]⟩), (.int .i64 0), (.int .i64 0)]) 32 rfl Try.underlying29 info98 rfl (by decide) (by omega) v1 ([] : List S98) L A L.length c (fun _ => True) (fun _ => False) rfl rfl HV1.out (Kd.C_below (Kd.C_below hr.out (pw_below_drewN (Below.refl _ w) n)) HB1.out) (fun y cs hy => by rw [k98_open hy]; exact k98_mkM _ _ _ _) (fun _ h => h.elim) (fun _ _ => trivial) HB1.out HB1.out.size (by have := hN.out; simp only [List.length_nil]; omega) ?_; intro v2 w2 hv2 hb2 hg2 hx2; rw [List.nil_append] at hv2; obtain ⟨inner, hown⟩ := Kd.R_own hv2; obtain ⟨g, cap, rfl, hgb⟩ := hown.form (by omega); have HG := Aside0.mk hgb; clear hgb; have HV2 := Aside0.mk hv2; have HB2 := Aside0.mk hb2; have HM2 := Aside0.mk (blk_below (blk_drewN HH.out.hd n) hb2); have hc1d := pw_cell_below hb2 (c_drewN hc1 n); have f1d := blk_frozen HM2.out 1; have hgm : m ≠ g := (fun e_ => by have := Kd.R_ne hv2 HM2.out (by decide); exact this (by rw [e_]; rfl)); obtain ⟨q0_, q1_, q2_, fz_, _⟩ := row_at hv2 i hlt; have fz1_ := fz_ (i * 3 + 1); clear q0_ q2_ fz_ hv2 hb2 hg2 hx2 hown))
  go_ret
  have h3 := (HH.out.drewN n).lay HB2.out HV2.out HH.out.few
  obtain ⟨h4, h5⟩ := row_set h3.row i hlt x
  have eg : L.getD i z98 = L[i] := by rw [List.getD_eq_getElem?_getD, List.getElem?_eq_getElem hlt]; rfl
  rw [eg] at h4
  exact ⟨rfl, ⟨_, ⟨blk_far h3.hd hgm _, h4, by rw [List.length_set]; exact HH.out.few⟩⟩, (frm_lay (((Frm.refl _ w).drewN n).trans (Frm.of_below HB2.out)) _).setCell (p := ⟨g, i * 3 + 1, none⟩) (.inr HG.out.1) _⟩
/-- A put, whatever is there. -/
theorem rput_any {w : World} {m most : Nat} {L : List S98} {v : Value} (h : RM w m most L v) (k : ByteArray) (x : Int) (hmost : most ≤ 5000) :
    Calls Try.prog 16 #[.pointer (some ⟨m, 0, none⟩), .string k, .int .i64 x] w fun e w' => e = .returned (.int .i64 (putC L most k)) ∧ (∃ v', RM w' m most (putL L most k x) v') ∧ Frm (fun b => b = m) w w' := by
  cases hi : idx L k with
  | some i =>
    rw [show putC L most k = 0 by unfold putC; rw [hi], show putL L most k x = L.set i ⟨(L.getD i z98).f0, x, (L.getD i z98).f2⟩ by unfold putL; rw [hi]]
    exact rput_set h k x i hi
  | none =>
    by_cases hf : most ≤ L.length
    · rw [show putC L most k = 6 by unfold putC; rw [hi]; exact if_pos hf, show putL L most k x = L by unfold putL; rw [hi]; exact if_pos hf]
      exact (rput_full h k x hi hf).mono fun e w' ⟨a, b, c⟩ => ⟨a, ⟨_, b⟩, c⟩
    · rw [show putC L most k = 0 by unfold putC; rw [hi]; exact if_neg hf, show putL L most k x = L ++ [⟨k, x, 0⟩] by unfold putL; rw [hi]; exact if_neg hf]
      exact rput_new h k x hi (by omega) hmost
end Go.Proofs.Ytjgoddieamphpaa.Obj
namespace Go.Proofs.Ytjgoddieamphpaa.Obj
open Go.RowKit Go.Proofs.YtjgoddieamphpaaW.PrintWords Go.Proofs.YtjgoddieamphpaaW.PrintLast Probe
set_option maxRecDepth 100000
set_option linter.unusedVariables false
theorem snext_any (p b : Nat) (N i : Nat) (w : World) (hc2 : w.cell? ⟨p, 2, none⟩ = some (.slice (some ⟨b, 0, none⟩) N N)) (hi : i < N) (hN : N ≤ 10000) :
    Calls Try.prog 85 #[.pointer (some ⟨p, 0, none⟩), .int .i64 (i : Int)] w fun e w' => e = .returned (.int .i64 (((i + 1) % N : Nat) : Int)) ∧ w = w' := by
  have e1 : ((N : Int) == 0) = false := by simp; omega
  go_enter Try.func85, Try.ntmps85
  go_wp2
  go_ret
  exact ⟨by simp, rfl⟩
theorem shome_any (p b : Nat) (N : Nat) (s : ByteArray) (w : World) (hc2 : w.cell? ⟨p, 2, none⟩ = some (.slice (some ⟨b, 0, none⟩) N N)) (hs : s.size ≤ 9223372036854775807) (hn : 0 < N) (hN : N ≤ 10000) :
    Calls Try.prog 84 #[.pointer (some ⟨p, 0, none⟩), .string s] w fun e w' => e = .returned (.int .i64 (slotN s N : Nat)) ∧ w = w' := by
  go_enter Try.func84, Try.ntmps84
  go_wp2_with fail
  (with_reducible refine (slot_any s N _ hs hn hN).mono ?_); rintro e w' ⟨rfl, rfl⟩
  go_wp2
  go_ret
  exact ⟨rfl, rfl⟩
theorem swalk_any {p b most : Nat} {sl : List (Option (Ent ByteArray))} {w : World} (key : ByteArray) (HT : TabS w p b most sl) (hs : key.size ≤ 9223372036854775807) :
    Calls Try.prog 64 #[.pointer (some ⟨p, 0, none⟩), .string key] w fun e w' => ∃ d, d < 2 * most ∧ e = .returned (.int .i64 (cyc (2 * most) (slotN key (2 * most) + d) : Nat)) ∧ w = w' ∧
      Passed (fun k => slotN k (2 * most)) (2 * most) sl key d ∧ (at_ sl (cyc (2 * most) (slotN key (2 * most) + d)) = none ∨ ∃ v, at_ sl (cyc (2 * most) (slotN key (2 * most) + d)) = some (key, v)) := by
  have hn : 0 < 2 * most := by have := HT.pos; omega
  have hN : 2 * most ≤ 10000 := by have := HT.big; omega
  have hc2 := HT.c2
  have hH := slotN_lt key (2 * most) hn
  have HT := Aside0.mk HT
  go_enter Try.func64, Try.ntmps64
  go_wp2_with fail
  (with_reducible refine (shome_any p b (2 * most) key _ hc2 hs hn hN).mono ?_); rintro e w' ⟨rfl, rfl⟩
  go_wp2
  go_loopg [5] (2 * most) (fun kq v5 w' => ∃ d : Nat, v5 = .int .i64 (cyc (2 * most) (slotN key (2 * most) + d) : Nat) ∧ Aside0 (kq + d = 2 * most ∧ d < 2 * most ∧ Passed (fun k => slotN k (2 * most)) (2 * most) sl key d) ∧ w = w')
  case atStart => exact ⟨0, by rw [Nat.add_zero, show cyc (2 * most) (slotN key (2 * most)) = slotN key (2 * most) from if_pos hH], ⟨by omega, hn, fun j hj => by omega⟩, rfl⟩
  case round =>
    obtain ⟨d, rfl, HD, rfl⟩ := hrel
    have hi : cyc (2 * most) (slotN key (2 * most) + d) < 2 * most := cyc_lt (by have := HD.out.2.1; omega)
    cases hx : at_ sl (cyc (2 * most) (slotN key (2 * most) + d)) with
    | none =>
      have HX := Lib.hid hx
      obtain ⟨h0, h1, h2⟩ := HT.out.none_at hi hx
      clear h1 h2 hx
      generalize hc : cyc (2 * most) (slotN key (2 * most) + d) = i at *
      go_wp2
      go_ret
      exact ⟨d, HD.out.2.1, by rw [hc]; rfl, rfl, HD.out.2.2, .inl (by rw [hc]; exact HX.out)⟩
    | some x =>
      obtain ⟨k2, v⟩ := x
      have HX := Lib.hid hx
      obtain ⟨h0, h1, h2⟩ := HT.out.some_at hi hx
      clear h2 hx
      by_cases hk : k2 = key
      · subst hk
        generalize hc : cyc (2 * most) (slotN k2 (2 * most) + d) = i at *
        have HC := Lib.hid hc
        clear hc
        go_wp2
        go_ret
        exact ⟨d, HD.out.2.1, by rw [HC.out]; rfl, rfl, HD.out.2.2, .inr ⟨v, by rw [HC.out]; exact HX.out⟩⟩
      · have HP : Aside0 (d + 1 < 2 * most ∧ Passed (fun k => slotN k (2 * most)) (2 * most) sl key (d + 1)) := by
          have hp : Passed (fun k => slotN k (2 * most)) (2 * most) sl key (d + 1) := by
            intro j hj
            by_cases hjd : j = d
            · subst hjd; exact ⟨k2, v, HX.out, hk⟩
            · exact HD.out.2.2 j (by omega)
          exact ⟨passed_lt HT.out.wf HT.out.free (by have := HD.out.2.1; omega) hp, hp⟩
        have b1 : (k2.toList == key.toList) = false := by simpa using bytes_ne hk
        have b2 : (k2.toList != key.toList) = true := by simpa using bytes_ne hk
        have HS := Lib.hid (cyc_step (2 * most) (slotN key (2 * most)) d hH (HP.out.1))
        clear hk
        generalize hc : cyc (2 * most) (slotN key (2 * most) + d) = i at *
        have HC := Lib.hid hc
        clear hc
        go_wp2_with fail
        (with_reducible refine (snext_any p b (2 * most) i _ hc2 hi hN).mono ?_); rintro e w' ⟨rfl, rfl⟩
        go_wp2
        go_roundg (gk - 1)
        case measure => have := HD.out; omega
        case rel => exact ⟨d + 1, by rw [← HS.out]; simp, ⟨by have := HD.out; omega, HP.out.1, HP.out.2⟩, rfl⟩

theorem shit_eq {p b most : Nat} {sl : List (Option (Ent ByteArray))} {w : World} {key : ByteArray} (HT : TabS w p b most sl) {i : Nat} {v : ByteArray} (he : at_ sl i = some (key, v)) {d : Nat} (hd : d < 2 * most)
    (hp : Passed (fun k => slotN k (2 * most)) (2 * most) sl key d) (h : at_ sl (cyc (2 * most) (slotN key (2 * most) + d)) = none ∨ ∃ v, at_ sl (cyc (2 * most) (slotN key (2 * most) + d)) = some (key, v)) : cyc (2 * most) (slotN key (2 * most) + d) = i := by
  rcases h with h | ⟨v', h⟩
  · exact absurd (present he) (absent HT.wf hd hp h v)
  · exact HT.wf.inj h he
theorem smiss_eq {p b most : Nat} {sl : List (Option (Ent ByteArray))} {w : World} {key : ByteArray} (HT : TabS w p b most sl) (hm : ∀ v, (key, v) ∉ items sl) {d : Nat}
    (h : at_ sl (cyc (2 * most) (slotN key (2 * most) + d)) = none ∨ ∃ v, at_ sl (cyc (2 * most) (slotN key (2 * most) + d)) = some (key, v)) : at_ sl (cyc (2 * most) (slotN key (2 * most) + d)) = none := by
  rcases h with h | ⟨v', h⟩
  · exact h
  · exact absurd (present h) (hm v')
theorem sat_hit {p b most : Nat} {sl : List (Option (Ent ByteArray))} {w : World} {key : ByteArray} (HT : TabS w p b most sl) (hs : key.size ≤ 9223372036854775807) {i : Nat} {v : ByteArray} (he : at_ sl i = some (key, v)) (hi : i < 2 * most) :
    Calls Try.prog 66 #[.pointer (some ⟨p, 0, none⟩), .string key] w fun e w' => e = .returned (.int .i64 (i : Nat)) ∧ w = w' := by
  have HE := Lib.hid he
  have hc2 := HT.c2
  obtain ⟨h0, h1, h2⟩ := HT.some_at hi he
  clear h1 h2 he
  have HT := Aside0.mk HT
  go_enter Try.func66, Try.ntmps66
  go_wp2_with fail
  (with_reducible refine (swalk_any key HT.out hs).mono ?_); rintro e w' ⟨d, hd, rfl, rfl, hp, hx⟩
  obtain hh := shit_eq HT.out HE.out hd hp hx
  rw [hh]
  clear hh hp hx hd
  go_wp2
  go_ret
  exact ⟨rfl, rfl⟩
theorem sat_miss {p b most : Nat} {sl : List (Option (Ent ByteArray))} {w : World} {key : ByteArray} (HT : TabS w p b most sl) (hs : key.size ≤ 9223372036854775807) (hm : ∀ v, (key, v) ∉ items sl) :
    Calls Try.prog 66 #[.pointer (some ⟨p, 0, none⟩), .string key] w fun e w' => e = .returned (.int .i64 (-1)) ∧ w = w' := by
  have HM := Lib.hid hm
  clear hm
  have hc2 := HT.c2
  have hn : 0 < 2 * most := by have := HT.pos; omega
  have hH := slotN_lt key (2 * most) hn
  have HT := Aside0.mk HT
  go_enter Try.func66, Try.ntmps66
  go_wp2_with fail
  (with_reducible refine (swalk_any key HT.out hs).mono ?_); rintro e w' ⟨d, hd, rfl, rfl, hp, hx⟩
  have hx := smiss_eq HT.out HM.out hx
  have hi : cyc (2 * most) (slotN key (2 * most) + d) < 2 * most := cyc_lt (by omega)
  obtain ⟨h0, h1, h2⟩ := HT.out.none_at hi hx
  clear h1 h2 hx hp hd
  generalize cyc (2 * most) (slotN key (2 * most) + d) = i at *
  go_wp2
  go_ret
  exact ⟨rfl, rfl⟩
theorem sat_nil (key : ByteArray) (w : World) :
    Calls Try.prog 66 #[.pointer none, .string key] w fun e w' => e = .returned (.int .i64 (-1)) ∧ w = w' := by
  go_enter Try.func66, Try.ntmps66
  go_wp2
  go_ret
  exact ⟨rfl, rfl⟩
theorem slen_any {p b most : Nat} {sl : List (Option (Ent ByteArray))} {w : World} (HT : TabS w p b most sl) :
    Calls Try.prog 19 #[.pointer (some ⟨p, 0, none⟩)] w fun e w' => e = .returned (.int .i64 ((items sl).length : Nat)) ∧ w = w' := by
  have hc1 := HT.c1
  go_enter Try.func19, Try.ntmps19
  go_wp2
  go_ret
  exact ⟨rfl, rfl⟩
theorem slen_nil (w : World) :
    Calls Try.prog 19 #[.pointer none] w fun e w' => e = .returned (.int .i64 0) ∧ w = w' := by
  go_enter Try.func19, Try.ntmps19
  go_wp2
  go_ret
  exact ⟨rfl, rfl⟩
theorem sput_nil (key : ByteArray) (v : ByteArray) (w : World) :
    Calls Try.prog 15 #[.pointer none, .string key, Value.string v] w fun e w' => e = .returned (.int .i64 6) ∧ w = w' := by
  go_enter Try.func15, Try.ntmps15
  go_wp2
  go_ret
  exact ⟨rfl, rfl⟩
theorem sget_hit {p b most : Nat} {sl : List (Option (Ent ByteArray))} {w : World} {key : ByteArray} (HT : TabS w p b most sl) (hs : key.size ≤ 9223372036854775807) {i : Nat} {v : ByteArray} (he : at_ sl i = some (key, v)) (hi : i < 2 * most) :
    Calls Try.prog 17 #[.pointer (some ⟨p, 0, none⟩), .string key] w fun e w' => e = .returned (.tuple #[Value.string v, .bool true]) ∧ w = w' := by
  have HE := Lib.hid he
  have hc2 := HT.c2
  obtain ⟨h0, h1, h2⟩ := HT.some_at hi he
  clear h1 h0 he
  have HT := Aside0.mk HT
  have hlt : ¬ ((i : Int) < 0) := by omega
  go_enter Try.func17, Try.ntmps17
  go_wp2_with fail
  (with_reducible refine (sat_hit HT.out hs HE.out hi).mono ?_); rintro e w' ⟨rfl, rfl⟩
  go_wp2
  go_ret2
  exact ⟨rfl, rfl⟩
theorem sget_miss {p b most : Nat} {sl : List (Option (Ent ByteArray))} {w : World} {key : ByteArray} (HT : TabS w p b most sl) (hs : key.size ≤ 9223372036854775807) (hm : ∀ v, (key, v) ∉ items sl) :
    Calls Try.prog 17 #[.pointer (some ⟨p, 0, none⟩), .string key] w fun e w' => e = .returned (.tuple #[.string ⟨#[]⟩, .bool false]) ∧ w = w' := by
  have HM := Lib.hid hm
  clear hm
  have HT := Aside0.mk HT
  go_enter Try.func17, Try.ntmps17
  go_wp2_with fail
  (with_reducible refine (sat_miss HT.out hs HM.out).mono ?_); rintro e w' ⟨rfl, rfl⟩
  go_wp2
  go_ret2
  exact ⟨rfl, rfl⟩

theorem sput_hit {p b most : Nat} {sl : List (Option (Ent ByteArray))} {w : World} {key : ByteArray} (HT : TabS w p b most sl) (hs : key.size ≤ 9223372036854775807) (v' : ByteArray) {i : Nat} {v : ByteArray} (he : at_ sl i = some (key, v)) (hi : i < 2 * most) :
    Calls Try.prog 15 #[.pointer (some ⟨p, 0, none⟩), .string key, Value.string v'] w fun e w' => e = .returned (.int .i64 0) ∧ TabS w' p b most (sl.set i (some (key, v'))) ∧ Frm (fun k => k = p ∨ k = b) w w' := by
  have HE := Lib.hid he
  have hc2 := HT.c2
  obtain ⟨h0, h1, h2⟩ := HT.some_at hi he
  clear he
  have hf : ∀ j, w.frozen? ⟨b, j, none⟩ = false := fun j => blk_frozen HT.bk j
  have f0 := hf (i * 3)
  have f1 := hf (i * 3 + 1)
  have f2 := hf (i * 3 + 2)
  clear hf
  have HT := Aside0.mk HT
  go_enter Try.func15, Try.ntmps15
  go_wp2_with fail
  (with_reducible refine (swalk_any key HT.out hs).mono ?_); rintro e w' ⟨d, hd, rfl, rfl, hp, hx⟩
  obtain hh := shit_eq HT.out HE.out hd hp hx
  rw [hh]
  clear hh hp hx hd
  go_wp2
  go_ret
  exact ⟨rfl, HT.out.store i (some (key, v')) _ _ _ rfl hi (by decide) (by have := (items_upd HT.out.wf HE.out hi v').2; rw [this]) (HT.out.wf.upd HE.out hi) (by have := (items_upd HT.out.wf HE.out hi v').2; rw [this]; exact HT.out.room) (by intro x hx; rcases (items_upd HT.out.wf HE.out hi v').1 x hx with rfl | hx; exact hs; exact HT.out.keys x hx), frm3 _ _ _ _ _ _ _⟩
theorem sput_full {p b most : Nat} {sl : List (Option (Ent ByteArray))} {w : World} {key : ByteArray} (HT : TabS w p b most sl) (hs : key.size ≤ 9223372036854775807) (v' : ByteArray) (hm : ∀ v, (key, v) ∉ items sl) (hfull : most ≤ (items sl).length) :
    Calls Try.prog 15 #[.pointer (some ⟨p, 0, none⟩), .string key, Value.string v'] w fun e w' => e = .returned (.int .i64 6) ∧ ∃ n, w' = w.drewN n := by
  have HM := Lib.hid hm
  clear hm
  have hc0 := HT.c0
  have hc1 := HT.c1
  have hc2 := HT.c2
  have hn : 0 < 2 * most := by have := HT.pos; omega
  have hH := slotN_lt key (2 * most) hn
  have HT := Aside0.mk HT
  have c1 : decide ((most : Int) ≤ ((items sl).length : Int)) = true := decide_eq_true (by omega)
  have c2 : decide (most ≤ (items sl).length) = true := decide_eq_true (by omega)
  go_enter Try.func15, Try.ntmps15
  go_wp2_with fail
  (with_reducible refine (swalk_any key HT.out hs).mono ?_); rintro e w' ⟨d, hd, rfl, rfl, hp, hx⟩
  have hx := smiss_eq HT.out HM.out hx
  have hi : cyc (2 * most) (slotN key (2 * most) + d) < 2 * most := cyc_lt (by omega)
  obtain ⟨h0, h1, h2⟩ := HT.out.none_at hi hx
  clear h1 h2 hx hp hd
  generalize cyc (2 * most) (slotN key (2 * most) + d) = i at *
  go_wp2
  go_quiet (fail)
  go_wp2
  go_ret
  exact ⟨rfl, _, rfl⟩
theorem sput_new {p b most : Nat} {sl : List (Option (Ent ByteArray))} {w : World} {key : ByteArray} (HT : TabS w p b most sl) (hs : key.size ≤ 9223372036854775807) (v' : ByteArray) (hm : ∀ v, (key, v) ∉ items sl) (hroom : (items sl).length < most) :
    Calls Try.prog 15 #[.pointer (some ⟨p, 0, none⟩), .string key, Value.string v'] w fun e w' => e = .returned (.int .i64 0) ∧ (∃ i, i < 2 * most ∧ at_ sl i = none ∧ TabS w' p b most (sl.set i (some (key, v')))) ∧ Frm (fun k => k = p ∨ k = b) w w' := by
  have HM := Lib.hid hm
  clear hm
  have hc0 := HT.c0
  have hc1 := HT.c1
  have hc2 := HT.c2
  have hn : 0 < 2 * most := by have := HT.pos; omega
  have hH := slotN_lt key (2 * most) hn
  have hbig := HT.big
  have hpb : p ≠ b := HT.ne (by decide)
  have fp : w.frozen? ⟨p, 1, none⟩ = false := blk_frozen HT.hd 1
  have HT := Aside0.mk HT
  have c1 : decide ((most : Int) ≤ ((items sl).length : Int)) = false := decide_eq_false (by omega)
  have c2 : decide (most ≤ (items sl).length) = false := decide_eq_false (by omega)
  have hw1 : IntKind.i64.wrap (((items sl).length : Int) + 1) = (((items sl).length + 1 : Nat) : Int) := by rw [IntKind.wrap_i64]; omega
  go_enter Try.func15, Try.ntmps15
  go_wp2_with fail
  (with_reducible refine (swalk_any key HT.out hs).mono ?_); rintro e w' ⟨d, hd, rfl, rfl, hp, hx⟩
  have hx := smiss_eq HT.out HM.out hx
  have hi : cyc (2 * most) (slotN key (2 * most) + d) < 2 * most := cyc_lt (by omega)
  have HP := Lib.hid (HT.out.wf.add (v := v') hd hp hx)
  obtain ⟨h0, h1, h2⟩ := HT.out.none_at hi hx
  have HX := Lib.hid hx
  clear hx hp hd
  have hf : ∀ j, w.frozen? ⟨b, j, none⟩ = false := fun j => blk_frozen HT.out.bk j
  generalize cyc (2 * most) (slotN key (2 * most) + d) = i at *
  have f0 := hf (i * 3)
  have f1 := hf (i * 3 + 1)
  have f2 := hf (i * 3 + 2)
  clear hf
  go_wp2
  go_quiet (fail)
  go_wp2
  go_ret
  have hin := items_in sl i (key, v') (by rw [HT.out.len]; exact hi) HX.out
  have hlen : (items (sl.set i (some (key, v')))).length = (items sl).length + 1 := by rw [hin.length_eq]; rfl
  exact ⟨rfl, ⟨i, hi, HX.out, HT.out.store1 nq i (some (key, v')) _ _ _ _ rfl hi (by decide) (by rw [hlen]; rfl) HP.out (by rw [hlen]; omega) (by intro x hx; rcases List.mem_cons.1 (hin.mem_iff.1 hx) with rfl | hx; exact hs; exact HT.out.keys x hx)⟩, frm4 _ _ _ _ _ _ _ _ _⟩

theorem sinfo_slot : (Try.prog.info? 95).map (fun i => (i.zero, i.size, i.bytes)) = some (some (.agg #[.bool false, .string ⟨#[]⟩, .string ⟨#[]⟩]), 3, 40) := by kernel_rfl
theorem smake_run (n : Nat) (hn : n ≤ 10000) (W : World) : (Instr.makeSlice 91 (.int .i64 (n : Int)) (.int .i64 (n : Int))).run Try.prog W = .ok (.slice (some ⟨W.heap.size, 0, none⟩) n n) (W.alloc (.cells (flat (Value.string) (.string ⟨#[]⟩) (List.replicate n (none : Option (Ent ByteArray)))).toArray 95)) := by
  obtain ⟨i0, hi, hz⟩ := Option.map_eq_some_iff.1 sinfo_slot
  simp only [Prod.mk.injEq] at hz
  obtain ⟨hz0, hz1, hz2⟩ := hz
  have := run_make (P := Try.prog) W 91 95 i0 _ Try.underlying91 hi hz0 .i64 .i64 (n : Int) (n : Int) (by omega) (by omega) (by rw [hz2]; omega) (by omega)
  rw [this, hz1, Int.toNat_natCast]
  show _ = Result.ok _ (W.alloc (.cells _ 95))
  rw [← made_flat]
  rfl
theorem snew_any (n : Nat) (hn : 1 ≤ n) (hN : n ≤ 4096) (w : World) :
    Calls Try.prog 14 #[.int .i64 (n : Int)] w fun e w' => ∃ p b, e = .returned (.tuple #[.pointer (some ⟨p, 0, none⟩), .int .i64 0]) ∧ TabS w' p b n (List.replicate (2 * n) none) ∧ w.heap.size ≤ p ∧ w.heap.size ≤ b ∧ Frm (fun _ => False) w w' := by
  have c1 : decide ((n : Int) < 1) = false := decide_eq_false (by omega)
  have c1' : decide (n < 1) = false := decide_eq_false (by omega)
  have c2 : decide ((4096 : Int) < (n : Int)) = false := decide_eq_false (by omega)
  have c3 : decide (4096 < n) = false := decide_eq_false (by omega)
  have hmk := smake_run (2 * n) (by omega)
  have e2 : ((2 * n : Nat) : Int) = 2 * (n : Int) := by omega
  rw [e2] at hmk
  clear e2
  go_enter Try.func14, Try.ntmps14
  go_wp2
  go_ret2
  exact ⟨w.heap.size + 1, w.heap.size, rfl, tab_new n hn hN w, by omega, Nat.le_refl _, ((Frm.refl _ _).alloc _).alloc _⟩
theorem snew_bad (n : Int) (h : n < 1 ∨ 4096 < n) (w : World) :
    Calls Try.prog 14 #[.int .i64 n] w fun e w' => e = .returned (.tuple #[.pointer none, .int .i64 1]) ∧ w = w' := by
  by_cases h1 : n < 1
  · have c1 : decide (n < 1) = true := decide_eq_true h1
    go_enter Try.func14, Try.ntmps14
    go_wp2
    go_ret2
    exact ⟨rfl, rfl⟩
  · have c1 : decide (n < 1) = false := decide_eq_false h1
    have c2 : decide (4096 < n) = true := decide_eq_true (by omega)
    go_enter Try.func14, Try.ntmps14
    go_wp2
    go_ret2
    exact ⟨rfl, rfl⟩

end Go.Proofs.Ytjgoddieamphpaa.Obj
namespace Go.Proofs.Ytjgoddieamphpaa.Obj
open Go.RowKit Go.Proofs.YtjgoddieamphpaaW.PrintWords Go.Proofs.YtjgoddieamphpaaW.PrintLast Probe
set_option maxRecDepth 100000
set_option linter.unusedVariables false
open Go.Proofs.Ytjgoddieamphpaa.PProbeActs
theorem getD_at (L : List S98) (i : Nat) (hi : i < L.length) : L.getD i z98 = L[i] := by rw [List.getD_eq_getElem?_getD, List.getElem?_eq_getElem hi]; rfl
theorem perm_at (L : List S98) (i : Nat) (hi : i < L.length) : L.Perm (L.getD i z98 :: dropAt L i) := by
  rw [getD_at L i hi]
  unfold dropAt
  have h1 : L = L.take i ++ (L[i] :: L.drop (i + 1)) := by rw [← List.drop_eq_getElem_cons hi, List.take_append_drop]
  conv => lhs; rw [h1]
  exact List.perm_middle
theorem dropAt_set (L : List S98) (i : Nat) (c : S98) : dropAt (L.set i c) i = dropAt L i := by
  unfold dropAt
  rw [List.take_set_of_le (Nat.le_refl _), List.drop_set_of_lt (by omega)]
theorem set_perm (L : List S98) (i : Nat) (hi : i < L.length) (c : S98) : (L.set i c).Perm (c :: dropAt L i) := by
  have h := perm_at (L.set i c) i (by simpa using hi)
  rw [dropAt_set] at h
  have e : (L.set i c).getD i z98 = c := by rw [getD_at _ _ (by simpa using hi), List.getElem_set_self]
  rwa [e] at h
theorem dropAt_len (L : List S98) (i : Nat) (hi : i < L.length) : (dropAt L i).length + 1 = L.length := by
  have := (perm_at L i hi).length_eq
  simpa using this.symm
def PrI (φ : Int → Int) (c : S98) : Ent Int := (c.f0, φ c.f1)
/-- The table holds what the document's row holds. -/
def TLI (φ : Int → Int) (w : World) (p b most : Nat) (L : List S98) : Prop := ∃ sl, TabI w p b most sl ∧ (items sl).Perm (L.map (PrI φ))
section
variable {φ : Int → Int} {w w1 : World} {p b most : Nat} {L : List S98}
theorem itl_len (h : TLI φ w p b most L) : L.length ≤ most := by
  obtain ⟨sl, h1, h2⟩ := h
  have := h2.length_eq
  rw [List.length_map] at this
  have := h1.room; omega
theorem itl_blk (h : TLI φ w p b most L) : (∃ cs, w.heap[p]? = some (.cells cs 101 (0, 0))) ∧ ∃ cs, w.heap[b]? = some (.cells cs 103 (0, 0)) := by
  obtain ⟨sl, h1, _⟩ := h
  exact ⟨⟨_, h1.hd⟩, ⟨_, h1.bk⟩⟩
theorem itl_frm (h : TLI φ w p b most L) {F : Nat → Prop} (k : Frm F w w1) (hp : ¬ F p) (hb : ¬ F b) : TLI φ w1 p b most L := by
  obtain ⟨sl, h1, h2⟩ := h
  exact ⟨sl, h1.frm k hp hb, h2⟩
theorem itl_nodup {sl : List (Option (Ent Int))} (h1 : TabI w p b most sl) (h2 : (items sl).Perm (L.map (PrI φ))) : (L.map (·.f0)).Nodup := by
  have := (h2.map (·.1)).nodup h1.wf.nodup
  rwa [List.map_map] at this
theorem itl_miss {sl : List (Option (Ent Int))} (h2 : (items sl).Perm (L.map (PrI φ))) {k : ByteArray} (hi : idx L k = none) : ∀ v, (k, v) ∉ items sl := by
  intro v hm
  obtain ⟨c, hc, he⟩ := List.mem_map.1 (h2.mem_iff.1 hm)
  have : c.f0 = k := congrArg (·.1) he
  exact idx_none hi c hc this
theorem itl_hit {sl : List (Option (Ent Int))} (h1 : TabI w p b most sl) (h2 : (items sl).Perm (L.map (PrI φ))) {k : ByteArray} {i : Nat} (hi : idx L k = some i) : ∃ q, q < 2 * most ∧ at_ sl q = some (k, φ (L.getD i z98).f1) := by
  obtain ⟨hlt, hk⟩ := idx_some hi
  have hm : (k, φ (L.getD i z98).f1) ∈ items sl := by
    refine h2.mem_iff.2 (List.mem_map.2 ⟨L.getD i z98, ?_, by unfold PrI; rw [hk]⟩)
    rw [getD_at L i hlt]; exact List.getElem_mem hlt
  obtain ⟨q, hq, he⟩ := (mem_items _ _).1 hm
  exact ⟨q, by rw [← h1.len]; exact hq, he⟩
theorem itput (h : TLI φ w p b most L) (k : ByteArray) (hs : k.size ≤ 9223372036854775807) (x : Int) (v : Int) (hv : φ x = v) :
    Calls Try.prog 21 #[.pointer (some ⟨p, 0, none⟩), .string k, Value.int .i64 v] w fun e w' => e = .returned (.int .i64 (putC L most k)) ∧ TLI φ w' p b most (putL L most k x) ∧ Frm (fun i => i = p ∨ i = b) w w' := by
  obtain ⟨sl, h1, h2⟩ := h
  have hlen : (items sl).length = L.length := by rw [h2.length_eq, List.length_map]
  cases hi : idx L k with
  | some i =>
    obtain ⟨hlt, hk⟩ := idx_some hi
    obtain ⟨q, hq, he⟩ := itl_hit h1 h2 hi
    rw [show putC L most k = 0 by unfold putC; rw [hi], show putL L most k x = L.set i ⟨(L.getD i z98).f0, x, (L.getD i z98).f2⟩ by unfold putL; rw [hi]]
    refine (iput_hit h1 hs v he hq).mono ?_
    rintro e w' ⟨a, c, d⟩
    refine ⟨a, ⟨_, c, ?_⟩, d⟩
    have hl : q < sl.length := by rw [h1.len]; exact hq
    have e1 := items_out sl q _ he
    have e2 : (items (sl.set q (some (k, v)))).Perm ((k, v) :: items (sl.set q none)) := by
      have := items_in (sl.set q none) q (k, v) (by simpa using hl) (by rw [at_set _ _ _ _ hl, if_pos rfl])
      rwa [List.set_set] at this
    have e3 := (perm_at L i hlt).map (PrI φ)
    have e4 := (set_perm L i hlt ⟨(L.getD i z98).f0, x, (L.getD i z98).f2⟩).map (PrI φ)
    have e5 : (items (sl.set q none)).Perm ((dropAt L i).map (PrI φ)) := by
      have := e1.symm.trans (h2.trans e3)
      rw [List.map_cons] at this
      have e6 : PrI φ (L.getD i z98) = (k, φ (L.getD i z98).f1) := by unfold PrI; rw [hk]
      rw [e6] at this
      exact this.cons_inv
    refine e2.trans (.trans ?_ e4.symm)
    rw [List.map_cons]
    have e7 : PrI φ ⟨(L.getD i z98).f0, x, (L.getD i z98).f2⟩ = (k, v) := by unfold PrI; rw [hk, hv]
    rw [e7]
    exact e5.cons _
  | none =>
    have hm := itl_miss h2 hi
    by_cases hf : most ≤ L.length
    · rw [show putC L most k = 6 by unfold putC; rw [hi]; exact if_pos hf, show putL L most k x = L by unfold putL; rw [hi]; exact if_pos hf]
      refine (iput_full h1 hs v hm (by omega)).mono ?_
      rintro e w' ⟨a, n, rfl⟩
      exact ⟨a, ⟨sl, h1.drewN n, h2⟩, (Frm.refl _ _).drewN n⟩
    · rw [show putC L most k = 0 by unfold putC; rw [hi]; exact if_neg hf, show putL L most k x = L ++ [⟨k, x, 0⟩] by unfold putL; rw [hi]; exact if_neg hf]
      refine (iput_new h1 hs v hm (by omega)).mono ?_
      rintro e w' ⟨a, ⟨q, hq, hn, c⟩, d⟩
      refine ⟨a, ⟨_, c, ?_⟩, d⟩
      have e2 := items_in sl q (k, v) (by rw [h1.len]; exact hq) hn
      refine e2.trans ?_
      rw [List.map_append]
      refine .trans ?_ List.perm_append_comm
      have e7 : [(⟨k, x, 0⟩ : S98)].map (PrI φ) = [(k, v)] := by simp [PrI, hv]
      rw [e7]
      exact (h2.cons _)
theorem itget (h : TLI φ w p b most L) (k : ByteArray) (hs : k.size ≤ 9223372036854775807) (z : Int) (hz : Value.int .i64 z = .int .i64 0) :
    Calls Try.prog 49 #[.pointer (some ⟨p, 0, none⟩), .string k] w fun e w' => e = .returned (.tuple #[Value.int .i64 (match idx L k with | some i => φ (L.getD i z98).f1 | none => z), .bool (hasB L k)]) ∧ w = w' := by
  obtain ⟨sl, h1, h2⟩ := h
  unfold hasB
  cases hi : idx L k with
  | some i =>
    obtain ⟨q, hq, he⟩ := itl_hit h1 h2 hi
    exact (iget_hit h1 hs he hq)
  | none =>
    refine (iget_miss h1 hs (itl_miss h2 hi)).mono ?_
    rintro e w' ⟨a, b⟩
    exact ⟨by rw [a, ← hz]; rfl, b⟩
theorem itlen (h : TLI φ w p b most L) :
    Calls Try.prog 23 #[.pointer (some ⟨p, 0, none⟩)] w fun e w' => e = .returned (.int .i64 (L.length : Nat)) ∧ w = w' := by
  obtain ⟨sl, h1, h2⟩ := h
  have hlen : (items sl).length = L.length := by rw [h2.length_eq, List.length_map]
  rw [← hlen]
  exact ilen_any h1
theorem itnew (n : Nat) (hn : 1 ≤ n) (hN : n ≤ 4096) (w : World) :
    Calls Try.prog 20 #[.int .i64 (n : Int)] w fun e w' => ∃ p b, e = .returned (.tuple #[.pointer (some ⟨p, 0, none⟩), .int .i64 0]) ∧ TLI φ w' p b n [] ∧ w.heap.size ≤ p ∧ w.heap.size ≤ b ∧ Frm (fun _ => False) w w' := by
  refine (inew_any n hn hN w).mono ?_
  rintro e w' ⟨p, b, a, c, d1, d2, d3⟩
  exact ⟨p, b, a, ⟨_, c, by rw [items_none]; exact List.Perm.refl _⟩, d1, d2, d3⟩
end
def PrS (φ : Int → ByteArray) (c : S98) : Ent ByteArray := (c.f0, φ c.f1)
/-- The table holds what the document's row holds. -/
def TLS (φ : Int → ByteArray) (w : World) (p b most : Nat) (L : List S98) : Prop := ∃ sl, TabS w p b most sl ∧ (items sl).Perm (L.map (PrS φ))
section
variable {φ : Int → ByteArray} {w w1 : World} {p b most : Nat} {L : List S98}
theorem stl_len (h : TLS φ w p b most L) : L.length ≤ most := by
  obtain ⟨sl, h1, h2⟩ := h
  have := h2.length_eq
  rw [List.length_map] at this
  have := h1.room; omega
theorem stl_blk (h : TLS φ w p b most L) : (∃ cs, w.heap[p]? = some (.cells cs 93 (0, 0))) ∧ ∃ cs, w.heap[b]? = some (.cells cs 95 (0, 0)) := by
  obtain ⟨sl, h1, _⟩ := h
  exact ⟨⟨_, h1.hd⟩, ⟨_, h1.bk⟩⟩
theorem stl_frm (h : TLS φ w p b most L) {F : Nat → Prop} (k : Frm F w w1) (hp : ¬ F p) (hb : ¬ F b) : TLS φ w1 p b most L := by
  obtain ⟨sl, h1, h2⟩ := h
  exact ⟨sl, h1.frm k hp hb, h2⟩
theorem stl_nodup {sl : List (Option (Ent ByteArray))} (h1 : TabS w p b most sl) (h2 : (items sl).Perm (L.map (PrS φ))) : (L.map (·.f0)).Nodup := by
  have := (h2.map (·.1)).nodup h1.wf.nodup
  rwa [List.map_map] at this
theorem stl_miss {sl : List (Option (Ent ByteArray))} (h2 : (items sl).Perm (L.map (PrS φ))) {k : ByteArray} (hi : idx L k = none) : ∀ v, (k, v) ∉ items sl := by
  intro v hm
  obtain ⟨c, hc, he⟩ := List.mem_map.1 (h2.mem_iff.1 hm)
  have : c.f0 = k := congrArg (·.1) he
  exact idx_none hi c hc this
theorem stl_hit {sl : List (Option (Ent ByteArray))} (h1 : TabS w p b most sl) (h2 : (items sl).Perm (L.map (PrS φ))) {k : ByteArray} {i : Nat} (hi : idx L k = some i) : ∃ q, q < 2 * most ∧ at_ sl q = some (k, φ (L.getD i z98).f1) := by
  obtain ⟨hlt, hk⟩ := idx_some hi
  have hm : (k, φ (L.getD i z98).f1) ∈ items sl := by
    refine h2.mem_iff.2 (List.mem_map.2 ⟨L.getD i z98, ?_, by unfold PrS; rw [hk]⟩)
    rw [getD_at L i hlt]; exact List.getElem_mem hlt
  obtain ⟨q, hq, he⟩ := (mem_items _ _).1 hm
  exact ⟨q, by rw [← h1.len]; exact hq, he⟩
theorem stput (h : TLS φ w p b most L) (k : ByteArray) (hs : k.size ≤ 9223372036854775807) (x : Int) (v : ByteArray) (hv : φ x = v) :
    Calls Try.prog 15 #[.pointer (some ⟨p, 0, none⟩), .string k, Value.string v] w fun e w' => e = .returned (.int .i64 (putC L most k)) ∧ TLS φ w' p b most (putL L most k x) ∧ Frm (fun i => i = p ∨ i = b) w w' := by
  obtain ⟨sl, h1, h2⟩ := h
  have hlen : (items sl).length = L.length := by rw [h2.length_eq, List.length_map]
  cases hi : idx L k with
  | some i =>
    obtain ⟨hlt, hk⟩ := idx_some hi
    obtain ⟨q, hq, he⟩ := stl_hit h1 h2 hi
    rw [show putC L most k = 0 by unfold putC; rw [hi], show putL L most k x = L.set i ⟨(L.getD i z98).f0, x, (L.getD i z98).f2⟩ by unfold putL; rw [hi]]
    refine (sput_hit h1 hs v he hq).mono ?_
    rintro e w' ⟨a, c, d⟩
    refine ⟨a, ⟨_, c, ?_⟩, d⟩
    have hl : q < sl.length := by rw [h1.len]; exact hq
    have e1 := items_out sl q _ he
    have e2 : (items (sl.set q (some (k, v)))).Perm ((k, v) :: items (sl.set q none)) := by
      have := items_in (sl.set q none) q (k, v) (by simpa using hl) (by rw [at_set _ _ _ _ hl, if_pos rfl])
      rwa [List.set_set] at this
    have e3 := (perm_at L i hlt).map (PrS φ)
    have e4 := (set_perm L i hlt ⟨(L.getD i z98).f0, x, (L.getD i z98).f2⟩).map (PrS φ)
    have e5 : (items (sl.set q none)).Perm ((dropAt L i).map (PrS φ)) := by
      have := e1.symm.trans (h2.trans e3)
      rw [List.map_cons] at this
      have e6 : PrS φ (L.getD i z98) = (k, φ (L.getD i z98).f1) := by unfold PrS; rw [hk]
      rw [e6] at this
      exact this.cons_inv
    refine e2.trans (.trans ?_ e4.symm)
    rw [List.map_cons]
    have e7 : PrS φ ⟨(L.getD i z98).f0, x, (L.getD i z98).f2⟩ = (k, v) := by unfold PrS; rw [hk, hv]
    rw [e7]
    exact e5.cons _
  | none =>
    have hm := stl_miss h2 hi
    by_cases hf : most ≤ L.length
    · rw [show putC L most k = 6 by unfold putC; rw [hi]; exact if_pos hf, show putL L most k x = L by unfold putL; rw [hi]; exact if_pos hf]
      refine (sput_full h1 hs v hm (by omega)).mono ?_
      rintro e w' ⟨a, n, rfl⟩
      exact ⟨a, ⟨sl, h1.drewN n, h2⟩, (Frm.refl _ _).drewN n⟩
    · rw [show putC L most k = 0 by unfold putC; rw [hi]; exact if_neg hf, show putL L most k x = L ++ [⟨k, x, 0⟩] by unfold putL; rw [hi]; exact if_neg hf]
      refine (sput_new h1 hs v hm (by omega)).mono ?_
      rintro e w' ⟨a, ⟨q, hq, hn, c⟩, d⟩
      refine ⟨a, ⟨_, c, ?_⟩, d⟩
      have e2 := items_in sl q (k, v) (by rw [h1.len]; exact hq) hn
      refine e2.trans ?_
      rw [List.map_append]
      refine .trans ?_ List.perm_append_comm
      have e7 : [(⟨k, x, 0⟩ : S98)].map (PrS φ) = [(k, v)] := by simp [PrS, hv]
      rw [e7]
      exact (h2.cons _)
theorem stget (h : TLS φ w p b most L) (k : ByteArray) (hs : k.size ≤ 9223372036854775807) (z : ByteArray) (hz : Value.string z = .string ⟨#[]⟩) :
    Calls Try.prog 17 #[.pointer (some ⟨p, 0, none⟩), .string k] w fun e w' => e = .returned (.tuple #[Value.string (match idx L k with | some i => φ (L.getD i z98).f1 | none => z), .bool (hasB L k)]) ∧ w = w' := by
  obtain ⟨sl, h1, h2⟩ := h
  unfold hasB
  cases hi : idx L k with
  | some i =>
    obtain ⟨q, hq, he⟩ := stl_hit h1 h2 hi
    exact (sget_hit h1 hs he hq)
  | none =>
    refine (sget_miss h1 hs (stl_miss h2 hi)).mono ?_
    rintro e w' ⟨a, b⟩
    exact ⟨by rw [a, ← hz]; rfl, b⟩
theorem stlen (h : TLS φ w p b most L) :
    Calls Try.prog 19 #[.pointer (some ⟨p, 0, none⟩)] w fun e w' => e = .returned (.int .i64 (L.length : Nat)) ∧ w = w' := by
  obtain ⟨sl, h1, h2⟩ := h
  have hlen : (items sl).length = L.length := by rw [h2.length_eq, List.length_map]
  rw [← hlen]
  exact slen_any h1
theorem stnew (n : Nat) (hn : 1 ≤ n) (hN : n ≤ 4096) (w : World) :
    Calls Try.prog 14 #[.int .i64 (n : Int)] w fun e w' => ∃ p b, e = .returned (.tuple #[.pointer (some ⟨p, 0, none⟩), .int .i64 0]) ∧ TLS φ w' p b n [] ∧ w.heap.size ≤ p ∧ w.heap.size ≤ b ∧ Frm (fun _ => False) w w' := by
  refine (snew_any n hn hN w).mono ?_
  rintro e w' ⟨p, b, a, c, d1, d2, d3⟩
  exact ⟨p, b, a, ⟨_, c, by rw [items_none]; exact List.Perm.refl _⟩, d1, d2, d3⟩
end

section
variable {φ : Int → Int} {w w1 : World} {p b most : Nat} {L : List S98}
theorem itdrop (h : TLI φ w p b most L) (k : ByteArray) (hs : k.size ≤ 9223372036854775807) :
    Calls Try.prog 22 #[.pointer (some ⟨p, 0, none⟩), .string k] w fun e w' => e = .returned (.bool (hasB L k)) ∧ TLI φ w' p b most (match idx L k with | some i => dropAt L i | none => L) ∧ Frm (fun i => i = p ∨ i = b) w w' := by
  obtain ⟨sl, h1, h2⟩ := h
  unfold hasB
  cases hi : idx L k with
  | some i =>
    obtain ⟨hlt, hk⟩ := idx_some hi
    obtain ⟨q, hq, he⟩ := itl_hit h1 h2 hi
    refine (idrop_hit h1 hs he hq).mono ?_
    rintro e w' ⟨a, ⟨sl', c, d⟩, f⟩
    refine ⟨a, ⟨sl', c, d.trans ?_⟩, f⟩
    have e1 := items_out sl q _ he
    have e3 := (perm_at L i hlt).map (PrI φ)
    have := e1.symm.trans (h2.trans e3)
    rw [List.map_cons] at this
    have e6 : PrI φ (L.getD i z98) = (k, φ (L.getD i z98).f1) := by unfold PrI; rw [hk]
    rw [e6] at this
    exact this.cons_inv
  | none =>
    refine (idrop_miss h1 hs (itl_miss h2 hi)).mono ?_
    rintro e w' ⟨a, rfl⟩
    exact ⟨a, ⟨sl, h1, h2⟩, Frm.refl _ _⟩
theorem itat (h : TLI φ w p b most L) (k : ByteArray) (hs : k.size ≤ 9223372036854775807) :
    Calls Try.prog 50 #[.pointer (some ⟨p, 0, none⟩), .string k] w fun e w' => ∃ i : Int, e = .returned (.int .i64 i) ∧ decide (0 ≤ i) = hasB L k ∧ w = w' := by
  obtain ⟨sl, h1, h2⟩ := h
  unfold hasB
  cases hi : idx L k with
  | some i =>
    obtain ⟨q, hq, he⟩ := itl_hit h1 h2 hi
    exact (iat_hit h1 hs he hq).mono fun e w' ⟨a, c⟩ => ⟨q, a, by simp, c⟩
  | none =>
    exact (iat_miss h1 hs (itl_miss h2 hi)).mono fun e w' ⟨a, c⟩ => ⟨-1, a, by simp, c⟩
end

end Go.Proofs.Ytjgoddieamphpaa.Obj
