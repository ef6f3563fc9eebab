/- The plain theory of a table with open places: what a walk finds, what a put and a drop leave. -/
set_option linter.unusedVariables false
set_option linter.unusedSimpArgs false
namespace Go.Proofs.Ytjgoddieamphpaa.Probe
/-- An item: a key and its value. -/
abbrev Ent (α : Type) := ByteArray × α
variable {α : Type}

def at_ (sl : List (Option (Ent α))) (p : Nat) : Option (Ent α) := sl.getD p none
def cyc (N x : Nat) : Nat := if x < N then x else x - N
theorem cyc_lt {N x : Nat} (h : x < 2 * N) : cyc N x < N := by unfold cyc; split <;> omega

theorem at_set (sl : List (Option (Ent α))) (p q : Nat) (x : Option (Ent α)) (hp : p < sl.length) : at_ (sl.set p x) q = if p = q then x else at_ sl q := by
  unfold at_
  rw [List.getD_eq_getElem?_getD, List.getElem?_set, List.getD_eq_getElem?_getD]
  by_cases h : p = q
  · subst h; simp [hp]
  · simp [h]

def items (sl : List (Option (Ent α))) : List (Ent α) := sl.filterMap id

theorem items_out (sl : List (Option (Ent α))) (p : Nat) (x : Ent α) (h : at_ sl p = some x) : (items sl).Perm (x :: items (sl.set p none)) := by
  induction sl generalizing p with
  | nil => simp [at_] at h
  | cons a t ih =>
    cases p with
    | zero =>
      simp [at_] at h
      subst h
      simp [items]
    | succ p =>
      have := ih p (by simpa [at_] using h)
      cases a with
      | none => simpa [items] using this
      | some y =>
        simp only [items, List.set_cons_succ, List.filterMap_cons, id] at *
        exact (List.Perm.cons y this).trans (List.Perm.swap x y _)
theorem items_in (sl : List (Option (Ent α))) (p : Nat) (x : Ent α) (hp : p < sl.length) (h : at_ sl p = none) : (items (sl.set p (some x))).Perm (x :: items sl) := by
  have h1 : at_ (sl.set p (some x)) p = some x := by rw [at_set _ _ _ _ hp, if_pos rfl]
  have h2 := items_out _ p x h1
  rw [List.set_set] at h2
  have h3 : sl.set p none = sl := by
    apply List.ext_getElem (by simp)
    intro i h4 h5
    rw [List.getElem_set]
    split
    · rename_i he; subst he
      unfold at_ at h
      rw [List.getD_eq_getElem?_getD, List.getElem?_eq_getElem hp] at h
      simpa using h.symm
    · rfl
  rwa [h3] at h2
theorem mem_items (sl : List (Option (Ent α))) (x : Ent α) : x ∈ items sl ↔ ∃ p, p < sl.length ∧ at_ sl p = some x := by
  unfold items at_
  rw [List.mem_filterMap]
  constructor
  · rintro ⟨y, hy, hx⟩
    obtain ⟨p, hp, rfl⟩ := List.getElem_of_mem hy
    refine ⟨p, hp, ?_⟩
    rw [List.getD_eq_getElem?_getD, List.getElem?_eq_getElem hp]
    exact hx
  · rintro ⟨p, hp, hx⟩
    rw [List.getD_eq_getElem?_getD, List.getElem?_eq_getElem hp] at hx
    exact ⟨_, List.getElem_mem hp, hx⟩

/-- how far p is behind a -/
def dist (N a p : Nat) : Nat := cyc N (p + N - a)

/-- What a table is: N places; each key stands where a walk from its home comes to it; no key stands twice. -/
structure WF (h : ByteArray → Nat) (N : Nat) (sl : List (Option (Ent α))) : Prop where
  len : sl.length = N
  home : ∀ k, h k < N
  nodup : ((items sl).map (·.1)).Nodup
  reach : ∀ p k v, p < N → at_ sl p = some (k, v) → ∀ j, 1 ≤ j → j ≤ dist N (h k) p → at_ sl (cyc N (p + N - j)) ≠ none

theorem key_inj_aux {sl : List (Option (Ent α))} : ∀ (p q : Nat) (k : ByteArray) (v v' : α), ((items sl).map (·.1)).Nodup → at_ sl p = some (k, v) → at_ sl q = some (k, v') → p = q := by
  intro p q k v v' nd hp hq
  apply Classical.byContradiction
  intro hne
  have hp' := items_out sl p _ hp
  have hpl : p < sl.length := by
    apply Classical.byContradiction; intro hn
    unfold at_ at hp
    rw [List.getD_eq_getElem?_getD, List.getElem?_eq_none (by omega)] at hp
    simp at hp
  have hql : q < sl.length := by
    apply Classical.byContradiction; intro hn
    unfold at_ at hq
    rw [List.getD_eq_getElem?_getD, List.getElem?_eq_none (by omega)] at hq
    simp at hq
  have hq' : at_ (sl.set p none) q = some (k, v') := by rw [at_set _ _ _ _ hpl, if_neg hne]; exact hq
  have hm : (k, v') ∈ items (sl.set p none) := (mem_items _ _).2 ⟨q, by simpa using hql, hq'⟩
  have := (hp'.map (·.1)).nodup nd
  simp only [List.map_cons, List.nodup_cons] at this
  exact this.1 (List.mem_map.2 ⟨_, hm, rfl⟩)
theorem WF.inj {h : ByteArray → Nat} {N : Nat} {sl : List (Option (Ent α))} (w : WF h N sl) {p q : Nat} {k : ByteArray} {v v' : α} (hp : at_ sl p = some (k, v)) (hq : at_ sl q = some (k, v')) : p = q := key_inj_aux p q k v v' w.nodup hp hq

/-- A walk has gone d steps from a key's home: all that it passed is used, by others. -/
def Passed (h : ByteArray → Nat) (N : Nat) (sl : List (Option (Ent α))) (k : ByteArray) (d : Nat) : Prop := ∀ j, j < d → ∃ k' v', at_ sl (cyc N (h k + j)) = some (k', v') ∧ k' ≠ k

theorem free_ex (sl : List (Option (Ent α))) (hl : (items sl).length < sl.length) : ∃ p, p < sl.length ∧ at_ sl p = none := by
  induction sl with
  | nil => simp at hl
  | cons a t ih =>
    cases a with
    | none => exact ⟨0, by simp, by simp [at_]⟩
    | some y =>
      have : (items t).length < t.length := by simp [items] at hl ⊢; omega
      obtain ⟨p, hp, he⟩ := ih this
      exact ⟨p + 1, by simp; omega, by simpa [at_] using he⟩
/-- A walk never comes round. -/
theorem passed_lt {h : ByteArray → Nat} {N : Nat} {sl : List (Option (Ent α))} (w : WF h N sl) (hf : (items sl).length < N) {k : ByteArray} {d : Nat} (hd : d ≤ N) (hp : Passed h N sl k d) : d < N := by
  apply Classical.byContradiction
  intro hn
  obtain rfl : d = N := by omega
  obtain ⟨p, hp1, hp2⟩ := free_ex sl (by rw [w.len]; exact hf)
  rw [w.len] at hp1
  have hh := w.home k
  by_cases hc : h k ≤ p
  · obtain ⟨k', v', e, _⟩ := hp (p - h k) (by omega)
    have : cyc d (h k + (p - h k)) = p := by unfold cyc; rw [if_pos (by omega)]; omega
    rw [this, hp2] at e; cases e
  · obtain ⟨k', v', e, _⟩ := hp (p + d - h k) (by omega)
    have : cyc d (h k + (p + d - h k)) = p := by unfold cyc; rw [if_neg (by omega)]; omega
    rw [this, hp2] at e; cases e
/-- Where a walk that passed d ends at what is free, the key is nowhere. -/
theorem absent {h : ByteArray → Nat} {N : Nat} {sl : List (Option (Ent α))} (w : WF h N sl) {k : ByteArray} {d : Nat} (hd : d < N) (hp : Passed h N sl k d) (he : at_ sl (cyc N (h k + d)) = none) : ∀ v, (k, v) ∉ items sl := by
  intro v hm
  obtain ⟨p, hp1, hp2⟩ := (mem_items _ _).1 hm
  rw [w.len] at hp1
  have hh := w.home k
  -- how far p is from home
  have hD : dist N (h k) p < N := by unfold dist; exact cyc_lt (by omega)
  have hback : cyc N (h k + dist N (h k) p) = p := by unfold dist cyc; split <;> split <;> omega
  by_cases hlt : dist N (h k) p < d
  · obtain ⟨k', v', e, ne⟩ := hp _ hlt
    rw [hback, hp2] at e
    injection e with e; injection e with e _
    exact ne e.symm
  · by_cases heq : dist N (h k) p = d
    · rw [← heq, hback, hp2] at he; cases he
    · have := w.reach p k v hp1 hp2 (dist N (h k) p - d) (by omega) (by omega)
      apply this
      have e : cyc N (p + N - (dist N (h k) p - d)) = cyc N (h k + d) := by
        generalize dist N (h k) p = D at *
        unfold cyc at hback ⊢
        split at hback <;> split <;> split <;> omega
      rw [e]; exact he
theorem present {sl : List (Option (Ent α))} {k : ByteArray} {p : Nat} {v : α} (he : at_ sl p = some (k, v)) : (k, v) ∈ items sl := by
  refine (mem_items _ _).2 ⟨p, ?_, he⟩
  apply Classical.byContradiction; intro hn
  unfold at_ at he
  rw [List.getD_eq_getElem?_getD, List.getElem?_eq_none (by omega)] at he
  simp at he
/-- A value is laid anew. -/
theorem WF.upd {h : ByteArray → Nat} {N : Nat} {sl : List (Option (Ent α))} (w : WF h N sl) {p : Nat} {k : ByteArray} {v v' : α} (he : at_ sl p = some (k, v)) (hp : p < N) : WF h N (sl.set p (some (k, v'))) := by
  have hpl : p < sl.length := by rw [w.len]; exact hp
  have e1 := items_out sl p _ he
  have e2 : (items (sl.set p (some (k, v')))).Perm ((k, v') :: items (sl.set p none)) := by
    have := items_in (sl.set p none) p (k, v') (by simpa using hpl) (by rw [at_set _ _ _ _ hpl, if_pos rfl])
    rwa [List.set_set] at this
  refine ⟨by simpa using w.len, w.home, ?_, ?_⟩
  · refine (e2.map (·.1)).symm.nodup ?_
    have := (e1.map (·.1)).nodup w.nodup
    simpa using this
  · intro q k2 v2 hq hs j hj1 hj2
    rw [at_set _ _ _ _ hpl]
    split
    · simp
    · rw [at_set _ _ _ _ hpl] at hs
      split at hs
      · rename_i e; subst e
        injection hs with hs; injection hs with hk _
        subst hk
        exact w.reach p k v hq he j hj1 hj2
      · exact w.reach q k2 v2 hq hs j hj1 hj2
/-- A key is laid where its walk ends. -/
theorem WF.add {h : ByteArray → Nat} {N : Nat} {sl : List (Option (Ent α))} (w : WF h N sl) {d : Nat} {k : ByteArray} {v : α} (hd : d < N) (hp : Passed h N sl k d) (he : at_ sl (cyc N (h k + d)) = none) : WF h N (sl.set (cyc N (h k + d)) (some (k, v))) := by
  have hh := w.home k
  have hpN : cyc N (h k + d) < N := cyc_lt (by omega)
  have hpl : cyc N (h k + d) < sl.length := by rw [w.len]; exact hpN
  have e2 := items_in sl _ (k, v) hpl he
  have ab := absent w hd hp he
  refine ⟨by simpa using w.len, w.home, ?_, ?_⟩
  · refine (e2.map (·.1)).symm.nodup ?_
    simp only [List.map_cons, List.nodup_cons]
    refine ⟨?_, w.nodup⟩
    intro hm
    obtain ⟨⟨k', v'⟩, h1, h2⟩ := List.mem_map.1 hm
    cases h2
    exact ab _ h1
  · intro q k2 v2 hq hs j hj1 hj2
    rw [at_set _ _ _ _ hpl]
    split
    · simp
    · rw [at_set _ _ _ _ hpl] at hs
      split at hs
      · rename_i hne e; subst e
        injection hs with hs; injection hs with hk _
        subst hk
        have hdd : dist N (h k) (cyc N (h k + d)) = d := by unfold dist cyc; split <;> split <;> omega
        rw [hdd] at hj2
        obtain ⟨k', v', e, _⟩ := hp (d - j) (by omega)
        have e3 : cyc N (cyc N (h k + d) + N - j) = cyc N (h k + (d - j)) := by unfold cyc; split <;> split <;> split <;> omega
        rw [e3, e]; simp
      · exact w.reach q k2 v2 hq hs j hj1 hj2

/-! Drop: a hole at f; what stands from behind it up to e steps further has been looked at. -/
structure Hole (h : ByteArray → Nat) (N : Nat) (sl : List (Option (Ent α))) (f e : Nat) : Prop where
  len : sl.length = N
  home : ∀ k, h k < N
  fN : f < N
  e1 : 1 ≤ e
  eN : e ≤ N
  nodup : ((items (sl.set f none)).map (·.1)).Nodup
  used : ∀ t, 1 ≤ t → t < e → at_ sl (cyc N (f + t)) ≠ none
  reach : ∀ p k v, p < N → p ≠ f → at_ sl p = some (k, v) → ∀ j, 1 ≤ j → j ≤ dist N (h k) p → cyc N (p + N - j) = f ∨ at_ sl (cyc N (p + N - j)) ≠ none
  seen : ∀ t k v, 1 ≤ t → t < e → at_ sl (cyc N (f + t)) = some (k, v) → dist N (h k) (cyc N (f + t)) < t

theorem Hole.start {h : ByteArray → Nat} {N : Nat} {sl : List (Option (Ent α))} (w : WF h N sl) {f : Nat} {x : Ent α} (hf : f < N) (hx : at_ sl f = some x) : Hole h N sl f 1 := by
  have e1 := items_out sl f x hx
  refine ⟨w.len, w.home, hf, Nat.le_refl _, by omega, ?_, fun t h1 h2 => by omega, fun p k v hp _ hs j h1 h2 => .inr (w.reach p k v hp hs j h1 h2), fun t _ _ h1 h2 => by omega⟩
  have := (e1.map (·.1)).nodup w.nodup
  simp only [List.map_cons, List.nodup_cons] at this
  exact this.2

theorem Hole.stay {h : ByteArray → Nat} {N : Nat} {sl : List (Option (Ent α))} {f e : Nat} (w : Hole h N sl f e) (heN : e < N) {k : ByteArray} {v : α} (hs : at_ sl (cyc N (f + e)) = some (k, v)) (hd : dist N (h k) (cyc N (f + e)) < e) : Hole h N sl f (e + 1) := by
  refine ⟨w.len, w.home, w.fN, by omega, by omega, w.nodup, ?_, w.reach, ?_⟩
  · intro t h1 h2
    by_cases ht : t = e
    · subst ht; rw [hs]; simp
    · exact w.used t h1 (by omega)
  · intro t k2 v2 h1 h2 h3
    by_cases ht : t = e
    · subst ht
      rw [hs] at h3; injection h3 with h3; injection h3 with hk _; subst hk
      exact hd
    · exact w.seen t k2 v2 h1 (by omega) h3

theorem Hole.move {h : ByteArray → Nat} {N : Nat} {sl : List (Option (Ent α))} {f e : Nat} (w : Hole h N sl f e) (heN : e < N) {k : ByteArray} {v : α} (hs : at_ sl (cyc N (f + e)) = some (k, v)) (hd : e ≤ dist N (h k) (cyc N (f + e))) :
    Hole h N (sl.set f (some (k, v))) (cyc N (f + e)) 1 ∧ (items ((sl.set f (some (k, v))).set (cyc N (f + e)) none)).Perm (items (sl.set f none)) := by
  have hf := w.fN
  have hfl : f < sl.length := by rw [w.len]; exact hf
  have hi : cyc N (f + e) < N := cyc_lt (by omega)
  have hil : cyc N (f + e) < sl.length := by rw [w.len]; exact hi
  have he1 := w.e1
  have hne : f ≠ cyc N (f + e) := by unfold cyc; split <;> omega
  have hperm : (items ((sl.set f (some (k, v))).set (cyc N (f + e)) none)).Perm (items (sl.set f none)) := by
    have a1 : at_ (sl.set f none) (cyc N (f + e)) = some (k, v) := by rw [at_set _ _ _ _ hfl, if_neg hne]; exact hs
    have a2 := items_out _ _ _ a1
    have a3 : at_ ((sl.set f none).set (cyc N (f + e)) none) f = none := by
      rw [at_set _ _ _ _ (by simpa using hil), if_neg (Ne.symm hne), at_set _ _ _ _ hfl, if_pos rfl]
    have a4 := items_in ((sl.set f none).set (cyc N (f + e)) none) f (k, v) (by simpa using hfl) a3
    rw [List.set_comm _ _ (Ne.symm hne), List.set_set] at a4
    exact a4.trans a2.symm
  refine ⟨⟨by simpa using w.len, w.home, hi, Nat.le_refl _, by omega, ?_, fun t h1 h2 => by omega, ?_, fun t _ _ h1 h2 => by omega⟩, hperm⟩
  · exact (hperm.map (·.1)).symm.nodup w.nodup
  · intro p k2 v2 hp hpne hs2 j hj1 hj2
    rw [at_set _ _ _ _ hfl] at hs2
    by_cases hq : cyc N (p + N - j) = cyc N (f + e)
    · exact .inl hq
    · right
      rw [at_set _ _ _ _ hfl]
      split
      · simp
      · rename_i hfq
        split at hs2
        · rename_i hfp
          subst hfp
          injection hs2 with hs2; injection hs2 with hk _
          subst hk
          -- the path of what was moved is the front of its old path
          have hh := w.home k
          have key : dist N (h k) (cyc N (f + e)) = dist N (h k) f + e := by
            unfold dist cyc at *
            split at hd <;> split <;> (try split) <;> (try split) <;> split at hd <;> omega
          have := w.reach (cyc N (f + e)) k v hi (Ne.symm hne) hs (j + e) (by omega) (by omega)
          have e4 : cyc N (cyc N (f + e) + N - (j + e)) = cyc N (f + N - j) := by
            have hD' : dist N (h k) (cyc N (f + e)) < N := by unfold dist; exact cyc_lt (by omega)
            rw [key] at hD'
            clear key this hd hs hne hil hi hperm
            unfold cyc; split <;> split <;> (try split) <;> omega
          rw [e4] at this
          rcases this with h1 | h1
          · exact absurd h1.symm hfq
          · exact h1
        · rcases w.reach p k2 v2 hp (by intro e5; subst e5; contradiction) hs2 j hj1 hj2 with h1 | h1
          · exact absurd h1.symm hfq
          · exact h1

theorem Hole.done {h : ByteArray → Nat} {N : Nat} {sl : List (Option (Ent α))} {f e : Nat} (w : Hole h N sl f e) (heN : e < N) (hs : at_ sl (cyc N (f + e)) = none) : WF h N (sl.set f none) := by
  have hf := w.fN
  have hfl : f < sl.length := by rw [w.len]; exact hf
  have he1 := w.e1
  refine ⟨by simpa using w.len, w.home, w.nodup, ?_⟩
  intro p k v hp hp2 j hj1 hj2
  rw [at_set _ _ _ _ hfl] at hp2
  split at hp2
  · cases hp2
  · rename_i hfp
    rw [at_set _ _ _ _ hfl]
    have hh := w.home k
    have hD : dist N (h k) p < N := by unfold dist; exact cyc_lt (by omega)
    -- where p is behind f
    have ht : ∃ t, 1 ≤ t ∧ t < N ∧ p = cyc N (f + t) := by
      by_cases hc : f < p
      · exact ⟨p - f, by omega, by omega, by unfold cyc; rw [if_pos (by omega)]; omega⟩
      · exact ⟨p + N - f, by omega, by omega, by unfold cyc; rw [if_neg (by omega)]; omega⟩
    obtain ⟨t, ht1, ht2, rfl⟩ := ht
    split
    · rename_i hq
      exfalso
      -- the path crosses f: j = t
      have hjt : j = t := by
        unfold cyc at hq; split at hq <;> split at hq <;> omega
      subst hjt
      by_cases hlt : j < e
      · have := w.seen j k v ht1 hlt hp2
        omega
      · by_cases heq : j = e
        · subst heq; rw [hs] at hp2; cases hp2
        · -- it passes e
          rcases w.reach _ k v hp (Ne.symm hfp) hp2 (j - e) (by omega) (by omega) with h1 | h1
          · unfold cyc at h1; split at h1 <;> split at h1 <;> omega
          · apply h1
            have e6 : cyc N (cyc N (f + j) + N - (j - e)) = cyc N (f + e) := by
              unfold cyc; split <;> split <;> (try split) <;> omega
            rw [e6]; exact hs
    · rename_i hq
      rcases w.reach _ k v hp (Ne.symm hfp) hp2 j hj1 hj2 with h1 | h1
      · exact absurd h1.symm hq
      · exact h1
theorem Hole.e_lt {h : ByteArray → Nat} {N : Nat} {sl : List (Option (Ent α))} {f e : Nat} (w : Hole h N sl f e) (hc : (items (sl.set f none)).length + 1 < N) : e < N := by
  apply Classical.byContradiction
  intro hn
  have heN := w.eN
  have hf := w.fN
  have hfl : f < sl.length := by rw [w.len]; exact hf
  obtain rfl : e = N := by omega
  -- put something at f: all is used
  obtain ⟨x, hx⟩ : ∃ x : Ent α, True := by
    cases hN : e with
    | zero => omega
    | succ m =>
      cases m with
      | zero => omega
      | succ m =>
        have := w.used 1 (by omega) (by omega)
        cases hq : at_ sl (cyc e (f + 1)) with
        | none => exact absurd hq this
        | some x => exact ⟨x, trivial⟩
  have hin := items_in (sl.set f none) f x (by simpa using hfl) (by rw [at_set _ _ _ _ hfl, if_pos rfl])
  rw [List.set_set] at hin
  obtain ⟨p, hp1, hp2⟩ := free_ex (sl.set f (some x)) (by rw [hin.length_eq]; simp; rw [w.len]; exact hc)
  rw [at_set _ _ _ _ hfl] at hp2
  split at hp2
  · cases hp2
  · rename_i hfp
    have hp1 : p < e := by simpa [w.len] using hp1
    by_cases hcmp : f < p
    · exact w.used (p - f) (by omega) (by omega) (by rw [show cyc e (f + (p - f)) = p by unfold cyc; rw [if_pos (by omega)]; omega]; exact hp2)
    · exact w.used (p + e - f) (by omega) (by omega) (by rw [show cyc e (f + (p + e - f)) = p by unfold cyc; rw [if_neg (by omega)]; omega]; exact hp2)
end Go.Proofs.Ytjgoddieamphpaa.Probe
