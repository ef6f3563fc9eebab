/- A part of the proof. -/
set_option linter.unusedVariables false
set_option linter.unusedSimpArgs false
namespace Go.Proofs.Ytjgoddieamphpaa.Heap
/-! The plain theory of a heap in a list: what a step up, a step down, a push and a removal leave. -/
variable {α : Type} (z : α) (lt : α → α → Bool)
/-- The element at a place. -/
def el (xs : List α) (i : Nat) : α := xs.getD i z
def par (i : Nat) : Nat := (i - 1) / 2
def swap (xs : List α) (i j : Nat) : List α := (xs.set i (el z xs j)).set j (el z xs i)
/-- A weak order. -/
structure WO : Prop where
  irr : ∀ a, lt a a = false
  tr : ∀ a b c, lt a b = true → lt b c = true → lt a c = true
  ntr : ∀ a b c, lt a b = false → lt b c = false → lt a c = false
/-- a is not behind b. -/
def le (a b : α) : Prop := lt b a = false
variable {lt}
theorem WO.refl (o : WO lt) (a : α) : le lt a a := o.irr a
theorem WO.trans (o : WO lt) {a b c : α} (h : le lt a b) (k : le lt b c) : le lt a c := o.ntr c b a k h
theorem WO.of_lt (o : WO lt) {a b : α} (h : lt a b = true) : le lt a b := by
  unfold le
  cases e : lt b a with
  | false => rfl
  | true => have h2 := o.tr _ _ _ h e; rw [o.irr] at h2; cases h2
variable {z}
theorem swap_len (xs : List α) (i j : Nat) : (swap z xs i j).length = xs.length := by simp [swap]
theorem el_set (xs : List α) (i k : Nat) (v : α) (hi : i < xs.length) : el z (xs.set i v) k = if i = k then v else el z xs k := by
  unfold el
  rw [List.getD_eq_getElem?_getD, List.getD_eq_getElem?_getD, List.getElem?_set]
  by_cases h : i = k
  · subst h; simp [hi]
  · simp [h]
theorem el_swap (xs : List α) (i j k : Nat) (hi : i < xs.length) (hj : j < xs.length) : el z (swap z xs i j) k = if j = k then el z xs i else if i = k then el z xs j else el z xs k := by
  unfold swap
  rw [el_set _ _ _ _ (by simpa using hj), el_set _ _ _ _ hi]
theorem el_at (xs : List α) (i : Nat) (hi : i < xs.length) : xs[i]? = some (el z xs i) := by
  unfold el; rw [List.getD_eq_getElem?_getD, List.getElem?_eq_getElem hi]; rfl
theorem el_mem (xs : List α) (i : Nat) (hi : i < xs.length) : el z xs i ∈ xs := List.mem_of_getElem? (el_at xs i hi)
theorem set_perm_aux : ∀ (xs : List α) (i : Nat) (v : α), i < xs.length → (el z xs i :: xs.set i v).Perm (v :: xs)
  | [], _, _, h => by cases h
  | x :: xs, 0, v, _ => List.Perm.swap v x xs
  | x :: xs, i + 1, v, h => by
    have ih := set_perm_aux xs i v (Nat.lt_of_succ_lt_succ h)
    have e : el z (x :: xs) (i + 1) = el z xs i := rfl
    rw [e]
    show (el z xs i :: x :: xs.set i v).Perm (v :: x :: xs)
    exact (List.Perm.swap x _ _).trans ((ih.cons x).trans (List.Perm.swap v x xs))
theorem swap_perm (xs : List α) (i j : Nat) (hi : i < xs.length) (hj : j < xs.length) : (swap z xs i j).Perm xs := by
  have h1 := set_perm_aux (z := z) xs i (el z xs j) hi
  have h2 := set_perm_aux (z := z) (xs.set i (el z xs j)) j (el z xs i) (by simpa using hj)
  have e : el z (xs.set i (el z xs j)) j = el z xs j := by
    rw [el_set _ _ _ _ hi]; split <;> rfl
  rw [e] at h2
  have h3 : (el z xs j :: swap z xs i j).Perm (el z xs j :: xs) := h2.trans h1
  exact h3.cons_inv
variable (z lt)
/-- Each of the first n is not ahead of its parent. -/
def Ok (n : Nat) (xs : List α) : Prop := ∀ c, 0 < c → c < n → le lt (el z xs (par c)) (el z xs c)
/-- .. but for the one at j, which may be ahead. -/
def Up (n : Nat) (xs : List α) (j : Nat) : Prop :=
  (∀ c, 0 < c → c < n → c ≠ j → le lt (el z xs (par c)) (el z xs c)) ∧ (∀ c, 0 < c → c < n → par c = j → 0 < j → le lt (el z xs (par j)) (el z xs c))
/-- .. but for the one at i, which may be behind its children; where it has not moved yet (b), it may be ahead of its parent. -/
def Dn (n : Nat) (xs : List α) (i : Nat) (b : Bool) : Prop :=
  (∀ c, 0 < c → c < n → par c ≠ i → (c ≠ i ∨ b = true) → le lt (el z xs (par c)) (el z xs c)) ∧ (∀ c, 0 < c → c < n → par c = i → 0 < i → le lt (el z xs (par i)) (el z xs c))
variable {z lt}
theorem par_lt {c : Nat} (h : 0 < c) : par c < c := by unfold par; omega
theorem Up.stop0 {n : Nat} {xs : List α} (h : Up z lt n xs 0) : Ok z lt n xs := fun c h0 hn => h.1 c h0 hn (by omega)
theorem Up.stop {n : Nat} {xs : List α} {j : Nat} (h : Up z lt n xs j) (hl : lt (el z xs j) (el z xs (par j)) = false) : Ok z lt n xs := fun c h0 hn => by
  by_cases hc : c = j
  · subst hc; exact hl
  · exact h.1 c h0 hn hc
theorem Up.step (o : WO lt) {n : Nat} {xs : List α} {j : Nat} (h : Up z lt n xs j) (hn : n ≤ xs.length) (h0 : 0 < j) (hj : j < n) (hl : lt (el z xs j) (el z xs (par j)) = true) : Up z lt n (swap z xs (par j) j) (par j) := by
  have hp : par j < j := par_lt h0
  have E : ∀ k, el z (swap z xs (par j) j) k = if j = k then el z xs (par j) else if par j = k then el z xs j else el z xs k := fun k => el_swap xs (par j) j k (by omega) (by omega)
  refine ⟨fun c c0 cn hc => ?_, fun c c0 cn hpc hp0 => ?_⟩
  · have hpc := par_lt c0
    rw [E c, E (par c)]
    by_cases e1 : j = c
    · subst e1
      rw [if_neg (by omega), if_pos rfl, if_pos rfl]
      exact o.of_lt hl
    · rw [if_neg e1, if_neg (show ¬ par j = c from fun e => hc e.symm)]
      by_cases e2 : j = par c
      · rw [if_pos e2]
        exact h.2 c c0 cn e2.symm h0
      · rw [if_neg e2]
        by_cases e3 : par j = par c
        · rw [if_pos e3]
          have h4 := h.1 c c0 cn (fun e => e1 e.symm)
          rw [← e3] at h4
          exact o.trans (o.of_lt hl) h4
        · rw [if_neg e3]
          exact h.1 c c0 cn (fun e => e1 e.symm)
  · have hpp := par_lt hp0
    have hpc2 := par_lt c0
    have hg : le lt (el z xs (par (par j))) (el z xs (par j)) := h.1 (par j) hp0 (by omega) (by omega)
    rw [E c, E (par (par j)), if_neg (by omega), if_neg (by omega)]
    by_cases e1 : j = c
    · rw [if_pos e1]; exact hg
    · rw [if_neg e1, if_neg (by omega)]
      have h4 := h.1 c c0 cn (fun e => e1 e.symm)
      rw [hpc] at h4
      exact o.trans hg h4
/-- Children. -/
theorem par_is {c i : Nat} (h0 : 0 < c) : par c = i ↔ c = 2 * i + 1 ∨ c = 2 * i + 2 := by unfold par; omega
/-- The child that is not behind the other. -/
def Least (z : α) (lt : α → α → Bool) (n : Nat) (xs : List α) (i j : Nat) : Prop := 0 < j ∧ j < n ∧ par j = i ∧ ∀ c, 0 < c → c < n → par c = i → le lt (el z xs j) (el z xs c)
theorem Least.one (o : WO lt) {n : Nat} {xs : List α} {i : Nat} (h : 2 * i + 1 < n) (h2 : n ≤ 2 * i + 2) : Least z lt n xs i (2 * i + 1) :=
  ⟨by omega, h, by unfold par; omega, fun c c0 cn hc => by
    have := (par_is c0).1 hc
    have : c = 2 * i + 1 := by omega
    subst this; exact o.refl _⟩
theorem Least.left (o : WO lt) {n : Nat} {xs : List α} {i : Nat} (h : 2 * i + 1 < n) (hl : lt (el z xs (2 * i + 2)) (el z xs (2 * i + 1)) = false) : Least z lt n xs i (2 * i + 1) :=
  ⟨by omega, h, by unfold par; omega, fun c c0 cn hc => by
    rcases (par_is c0).1 hc with e | e
    · subst e; exact o.refl _
    · subst e; exact hl⟩
theorem Least.right (o : WO lt) {n : Nat} {xs : List α} {i : Nat} (h : 2 * i + 2 < n) (hl : lt (el z xs (2 * i + 2)) (el z xs (2 * i + 1)) = true) : Least z lt n xs i (2 * i + 2) :=
  ⟨by omega, h, by unfold par; omega, fun c c0 cn hc => by
    rcases (par_is c0).1 hc with e | e
    · subst e; exact o.of_lt hl
    · subst e; exact o.refl _⟩
/-- No child is ahead: a step down ends. -/
theorem Dn.stop {n : Nat} {xs : List α} {i : Nat} (h : Dn z lt n xs i true) (hs : ∀ c, 0 < c → c < n → par c = i → le lt (el z xs i) (el z xs c)) : Ok z lt n xs := fun c c0 cn => by
  by_cases e : par c = i
  · have h4 := hs c c0 cn e; rw [← e] at h4; exact h4
  · exact h.1 c c0 cn e (Or.inr rfl)
theorem Dn.stop_up {n : Nat} {xs : List α} {i : Nat} {b : Bool} (h : Dn z lt n xs i b) (hs : ∀ c, 0 < c → c < n → par c = i → le lt (el z xs i) (el z xs c)) : Up z lt n xs i :=
  ⟨fun c c0 cn hc => by
    by_cases e : par c = i
    · have h4 := hs c c0 cn e; rw [← e] at h4; exact h4
    · exact h.1 c c0 cn e (Or.inl hc), h.2⟩
theorem Least.stop (o : WO lt) {n : Nat} {xs : List α} {i j : Nat} (h : Least z lt n xs i j) (hl : lt (el z xs j) (el z xs i) = false) : ∀ c, 0 < c → c < n → par c = i → le lt (el z xs i) (el z xs c) := fun c c0 cn hc => o.trans hl (h.2.2.2 c c0 cn hc)
theorem no_child {n : Nat} {xs : List α} {i : Nat} (h : n ≤ 2 * i + 1) : ∀ c, 0 < c → c < n → par c = i → le lt (el z xs i) (el z xs c) := fun c c0 cn hc => by
  have := (par_is c0).1 hc; omega
theorem Dn.step (o : WO lt) {n : Nat} {xs : List α} {i j : Nat} {b : Bool} (h : Dn z lt n xs i b) (hn : n ≤ xs.length) (hL : Least z lt n xs i j) (hl : lt (el z xs j) (el z xs i) = true) : Dn z lt n (swap z xs i j) j true := by
  obtain ⟨j0, jn, pj, hm⟩ := hL
  have hij : i < j := by have := par_lt j0; omega
  have E : ∀ k, el z (swap z xs i j) k = if j = k then el z xs i else if i = k then el z xs j else el z xs k := fun k => el_swap xs i j k (by omega) (by omega)
  refine ⟨fun c c0 cn hpc _ => ?_, fun c c0 cn hpc _ => ?_⟩
  · have hpc2 := par_lt c0
    rw [E c, E (par c), if_neg (fun e => hpc e.symm)]
    by_cases e1 : j = c
    · subst e1
      rw [if_pos pj.symm, if_pos rfl]
      exact o.of_lt hl
    · rw [if_neg e1]
      by_cases e2 : i = c
      · subst e2
        rw [if_neg (by omega), if_pos rfl]
        have h4 := h.2 j j0 jn pj c0
        exact h4
      · rw [if_neg e2]
        by_cases e3 : i = par c
        · rw [if_pos e3]; exact hm c c0 cn e3.symm
        · rw [if_neg e3]; exact h.1 c c0 cn (fun e => e3 e.symm) (Or.inl (fun e => e2 e.symm))
  · have hpc2 := par_lt c0
    rw [E c, E (par j), pj, if_neg (by omega), if_pos rfl, if_neg (by omega), if_neg (by omega)]
    have h4 := h.1 c c0 cn (by omega) (Or.inl (by omega))
    rw [hpc] at h4; exact h4
theorem Ok.root (o : WO lt) {n : Nat} {xs : List α} (h : Ok z lt n xs) : ∀ k, k < n → le lt (el z xs 0) (el z xs k) := fun k => by
  induction k using Nat.strongRecOn with
  | _ k ih =>
    intro hk
    by_cases h0 : k = 0
    · subst h0; exact o.refl _
    · have hp := par_lt (c := k) (by omega)
      exact o.trans (ih (par k) hp (by omega)) (h k (by omega) hk)
theorem el_app (xs : List α) (x : α) (k : Nat) : el z (xs ++ [x]) k = if k < xs.length then el z xs k else if k = xs.length then x else z := by
  unfold el
  rw [List.getD_eq_getElem?_getD, List.getD_eq_getElem?_getD]
  by_cases h : k < xs.length
  · rw [if_pos h, List.getElem?_append_left h]
  · rw [if_neg h, List.getElem?_append_right (by omega)]
    by_cases h2 : k = xs.length
    · subst h2; simp
    · rw [if_neg h2, List.getElem?_eq_none (by simp; omega)]; rfl
theorem Ok.push {xs : List α} (h : Ok z lt xs.length xs) (x : α) : Up z lt (xs.length + 1) (xs ++ [x]) xs.length :=
  ⟨fun c c0 cn hc => by
    have hp := par_lt c0
    rw [el_app, el_app, if_pos (by omega), if_pos (by omega)]
    exact h c c0 (by omega), fun c c0 cn hc h0 => by have := par_lt c0; omega⟩
theorem Ok.remove (o : WO lt) {n : Nat} {xs : List α} (h : Ok z lt (n + 1) xs) (hn : n < xs.length) {i : Nat} (hi : i < n) : Dn z lt n (swap z xs i n) i false := by
  have E : ∀ k, el z (swap z xs i n) k = if n = k then el z xs i else if i = k then el z xs n else el z xs k := fun k => el_swap xs i n k (by omega) (by omega)
  refine ⟨fun c c0 cn hpc hc => ?_, fun c c0 cn hpc h0 => ?_⟩
  · have hp := par_lt c0
    have hc : c ≠ i := by rcases hc with h | h; exact h; cases h
    rw [E c, E (par c), if_neg (by omega), if_neg (by omega), if_neg (by omega), if_neg (by omega)]
    exact h c c0 (by omega)
  · have hp := par_lt c0
    have hp2 := par_lt h0
    rw [E c, E (par i), if_neg (by omega), if_neg (by omega), if_neg (by omega), if_neg (by omega)]
    have h4 := h c c0 (by omega)
    rw [hpc] at h4
    exact o.trans (h i h0 (by omega)) h4
theorem Ok.less {n m : Nat} {xs : List α} (h : Ok z lt n xs) (hm : m ≤ n) : Ok z lt m xs := fun c c0 cn => h c c0 (by omega)
theorem Ok.take {n : Nat} {xs : List α} (h : Ok z lt n xs) : Ok z lt n (xs.take n) := fun c c0 cn => by
  have hp := par_lt c0
  have e : ∀ k, k < n → el z (xs.take n) k = el z xs k := fun k hk => by unfold el; rw [List.getD_eq_getElem?_getD, List.getD_eq_getElem?_getD, List.getElem?_take_of_lt hk]
  rw [e c cn, e (par c) (by omega)]
  exact h c c0 cn
end Go.Proofs.Ytjgoddieamphpaa.Heap
