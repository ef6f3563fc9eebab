/- A wheel: a heap of items, and its map. -/
import Derived.Test.YtjgoddieamphpaaMA
import Derived.Maps.OwnSet
import Derived.Sort.Walk0
import Derived.Deep.QuietTactic
import Derived.BigQuiet
import Derived.Deep.RegionWith
import Derived.Maps.AppendAt
set_option linter.unusedVariables false
set_option linter.unusedSimpArgs false
namespace Go.Proofs.Ytjgoddieamphpaa.Heap
/-! The plain theory of a heap in a list: what a step up, a step down, a push and a removal leave. -/
variable {α : Type} (z : α) (lt : α → α → Bool)
/-- The element at a place. -/
def el (xs : List α) (i : Nat) : α := xs.getD i z
def par (i : Nat) : Nat := (i - 1) / 2
def swap (xs : List α) (i j : Nat) : List α := (xs.set i (el z xs j)).set j (el z xs i)
/-- A weak order. -/
structure WO : Prop where
  irr : ∀ a, lt a a = false
  tr : ∀ a b c, lt a b = true → lt b c = true → lt a c = true
  ntr : ∀ a b c, lt a b = false → lt b c = false → lt a c = false
/-- a is not behind b. -/
def le (a b : α) : Prop := lt b a = false
variable {lt}
theorem WO.refl (o : WO lt) (a : α) : le lt a a := o.irr a
theorem WO.trans (o : WO lt) {a b c : α} (h : le lt a b) (k : le lt b c) : le lt a c := o.ntr c b a k h
theorem WO.of_lt (o : WO lt) {a b : α} (h : lt a b = true) : le lt a b := by
  unfold le
  cases e : lt b a with
  | false => rfl
  | true => have h2 := o.tr _ _ _ h e; rw [o.irr] at h2; cases h2
variable {z}
theorem swap_len (xs : List α) (i j : Nat) : (swap z xs i j).length = xs.length := by simp [swap]
theorem el_set (xs : List α) (i k : Nat) (v : α) (hi : i < xs.length) : el z (xs.set i v) k = if i = k then v else el z xs k := by
  unfold el
  rw [List.getD_eq_getElem?_getD, List.getD_eq_getElem?_getD, List.getElem?_set]
  by_cases h : i = k
  · subst h; simp [hi]
  · simp [h]
theorem el_swap (xs : List α) (i j k : Nat) (hi : i < xs.length) (hj : j < xs.length) : el z (swap z xs i j) k = if j = k then el z xs i else if i = k then el z xs j else el z xs k := by
  unfold swap
  rw [el_set _ _ _ _ (by simpa using hj), el_set _ _ _ _ hi]
theorem el_at (xs : List α) (i : Nat) (hi : i < xs.length) : xs[i]? = some (el z xs i) := by
  unfold el; rw [List.getD_eq_getElem?_getD, List.getElem?_eq_getElem hi]; rfl
theorem el_mem (xs : List α) (i : Nat) (hi : i < xs.length) : el z xs i ∈ xs := List.mem_of_getElem? (el_at xs i hi)
theorem set_perm_aux : ∀ (xs : List α) (i : Nat) (v : α), i < xs.length → (el z xs i :: xs.set i v).Perm (v :: xs)
  | [], _, _, h => by cases h
  | x :: xs, 0, v, _ => List.Perm.swap v x xs
  | x :: xs, i + 1, v, h => by
    have ih := set_perm_aux xs i v (Nat.lt_of_succ_lt_succ h)
    have e : el z (x :: xs) (i + 1) = el z xs i := rfl
    rw [e]
    show (el z xs i :: x :: xs.set i v).Perm (v :: x :: xs)
    exact (List.Perm.swap x _ _).trans ((ih.cons x).trans (List.Perm.swap v x xs))
theorem swap_perm (xs : List α) (i j : Nat) (hi : i < xs.length) (hj : j < xs.length) : (swap z xs i j).Perm xs := by
  have h1 := set_perm_aux (z := z) xs i (el z xs j) hi
  have h2 := set_perm_aux (z := z) (xs.set i (el z xs j)) j (el z xs i) (by simpa using hj)
  have e : el z (xs.set i (el z xs j)) j = el z xs j := by
    rw [el_set _ _ _ _ hi]; split <;> rfl
  rw [e] at h2
  have h3 : (el z xs j :: swap z xs i j).Perm (el z xs j :: xs) := h2.trans h1
  exact h3.cons_inv
variable (z lt)
/-- Each of the first n is not ahead of its parent. -/
def Ok (n : Nat) (xs : List α) : Prop := ∀ c, 0 < c → c < n → le lt (el z xs (par c)) (el z xs c)
/-- .. but for the one at j, which may be ahead. -/
def Up (n : Nat) (xs : List α) (j : Nat) : Prop :=
  (∀ c, 0 < c → c < n → c ≠ j → le lt (el z xs (par c)) (el z xs c)) ∧ (∀ c, 0 < c → c < n → par c = j → 0 < j → le lt (el z xs (par j)) (el z xs c))
/-- .. but for the one at i, which may be behind its children; where it has not moved yet (b), it may be ahead of its parent. -/
def Dn (n : Nat) (xs : List α) (i : Nat) (b : Bool) : Prop :=
  (∀ c, 0 < c → c < n → par c ≠ i → (c ≠ i ∨ b = true) → le lt (el z xs (par c)) (el z xs c)) ∧ (∀ c, 0 < c → c < n → par c = i → 0 < i → le lt (el z xs (par i)) (el z xs c))
variable {z lt}
theorem par_lt {c : Nat} (h : 0 < c) : par c < c := by unfold par; omega
theorem Up.stop0 {n : Nat} {xs : List α} (h : Up z lt n xs 0) : Ok z lt n xs := fun c h0 hn => h.1 c h0 hn (by omega)
theorem Up.stop {n : Nat} {xs : List α} {j : Nat} (h : Up z lt n xs j) (hl : lt (el z xs j) (el z xs (par j)) = false) : Ok z lt n xs := fun c h0 hn => by
  by_cases hc : c = j
  · subst hc; exact hl
  · exact h.1 c h0 hn hc
theorem Up.step (o : WO lt) {n : Nat} {xs : List α} {j : Nat} (h : Up z lt n xs j) (hn : n ≤ xs.length) (h0 : 0 < j) (hj : j < n) (hl : lt (el z xs j) (el z xs (par j)) = true) : Up z lt n (swap z xs (par j) j) (par j) := by
  have hp : par j < j := par_lt h0
  have E : ∀ k, el z (swap z xs (par j) j) k = if j = k then el z xs (par j) else if par j = k then el z xs j else el z xs k := fun k => el_swap xs (par j) j k (by omega) (by omega)
  refine ⟨fun c c0 cn hc => ?_, fun c c0 cn hpc hp0 => ?_⟩
  · have hpc := par_lt c0
    rw [E c, E (par c)]
    by_cases e1 : j = c
    · subst e1
      rw [if_neg (by omega), if_pos rfl, if_pos rfl]
      exact o.of_lt hl
    · rw [if_neg e1, if_neg (show ¬ par j = c from fun e => hc e.symm)]
      by_cases e2 : j = par c
      · rw [if_pos e2]
        exact h.2 c c0 cn e2.symm h0
      · rw [if_neg e2]
        by_cases e3 : par j = par c
        · rw [if_pos e3]
          have h4 := h.1 c c0 cn (fun e => e1 e.symm)
          rw [← e3] at h4
          exact o.trans (o.of_lt hl) h4
        · rw [if_neg e3]
          exact h.1 c c0 cn (fun e => e1 e.symm)
  · have hpp := par_lt hp0
    have hpc2 := par_lt c0
    have hg : le lt (el z xs (par (par j))) (el z xs (par j)) := h.1 (par j) hp0 (by omega) (by omega)
    rw [E c, E (par (par j)), if_neg (by omega), if_neg (by omega)]
    by_cases e1 : j = c
    · rw [if_pos e1]; exact hg
    · rw [if_neg e1, if_neg (by omega)]
      have h4 := h.1 c c0 cn (fun e => e1 e.symm)
      rw [hpc] at h4
      exact o.trans hg h4
/-- Children. -/
theorem par_is {c i : Nat} (h0 : 0 < c) : par c = i ↔ c = 2 * i + 1 ∨ c = 2 * i + 2 := by unfold par; omega
/-- The child that is not behind the other. -/
def Least (z : α) (lt : α → α → Bool) (n : Nat) (xs : List α) (i j : Nat) : Prop := 0 < j ∧ j < n ∧ par j = i ∧ ∀ c, 0 < c → c < n → par c = i → le lt (el z xs j) (el z xs c)
theorem Least.one (o : WO lt) {n : Nat} {xs : List α} {i : Nat} (h : 2 * i + 1 < n) (h2 : n ≤ 2 * i + 2) : Least z lt n xs i (2 * i + 1) :=
  ⟨by omega, h, by unfold par; omega, fun c c0 cn hc => by
    have := (par_is c0).1 hc
    have : c = 2 * i + 1 := by omega
    subst this; exact o.refl _⟩
theorem Least.left (o : WO lt) {n : Nat} {xs : List α} {i : Nat} (h : 2 * i + 1 < n) (hl : lt (el z xs (2 * i + 2)) (el z xs (2 * i + 1)) = false) : Least z lt n xs i (2 * i + 1) :=
  ⟨by omega, h, by unfold par; omega, fun c c0 cn hc => by
    rcases (par_is c0).1 hc with e | e
    · subst e; exact o.refl _
    · subst e; exact hl⟩
theorem Least.right (o : WO lt) {n : Nat} {xs : List α} {i : Nat} (h : 2 * i + 2 < n) (hl : lt (el z xs (2 * i + 2)) (el z xs (2 * i + 1)) = true) : Least z lt n xs i (2 * i + 2) :=
  ⟨by omega, h, by unfold par; omega, fun c c0 cn hc => by
    rcases (par_is c0).1 hc with e | e
    · subst e; exact o.of_lt hl
    · subst e; exact o.refl _⟩
/-- No child is ahead: a step down ends. -/
theorem Dn.stop {n : Nat} {xs : List α} {i : Nat} (h : Dn z lt n xs i true) (hs : ∀ c, 0 < c → c < n → par c = i → le lt (el z xs i) (el z xs c)) : Ok z lt n xs := fun c c0 cn => by
  by_cases e : par c = i
  · have h4 := hs c c0 cn e; rw [← e] at h4; exact h4
  · exact h.1 c c0 cn e (Or.inr rfl)
theorem Dn.stop_up {n : Nat} {xs : List α} {i : Nat} {b : Bool} (h : Dn z lt n xs i b) (hs : ∀ c, 0 < c → c < n → par c = i → le lt (el z xs i) (el z xs c)) : Up z lt n xs i :=
  ⟨fun c c0 cn hc => by
    by_cases e : par c = i
    · have h4 := hs c c0 cn e; rw [← e] at h4; exact h4
    · exact h.1 c c0 cn e (Or.inl hc), h.2⟩
theorem Least.stop (o : WO lt) {n : Nat} {xs : List α} {i j : Nat} (h : Least z lt n xs i j) (hl : lt (el z xs j) (el z xs i) = false) : ∀ c, 0 < c → c < n → par c = i → le lt (el z xs i) (el z xs c) := fun c c0 cn hc => o.trans hl (h.2.2.2 c c0 cn hc)
theorem no_child {n : Nat} {xs : List α} {i : Nat} (h : n ≤ 2 * i + 1) : ∀ c, 0 < c → c < n → par c = i → le lt (el z xs i) (el z xs c) := fun c c0 cn hc => by
  have := (par_is c0).1 hc; omega
theorem Dn.step (o : WO lt) {n : Nat} {xs : List α} {i j : Nat} {b : Bool} (h : Dn z lt n xs i b) (hn : n ≤ xs.length) (hL : Least z lt n xs i j) (hl : lt (el z xs j) (el z xs i) = true) : Dn z lt n (swap z xs i j) j true := by
  obtain ⟨j0, jn, pj, hm⟩ := hL
  have hij : i < j := by have := par_lt j0; omega
  have E : ∀ k, el z (swap z xs i j) k = if j = k then el z xs i else if i = k then el z xs j else el z xs k := fun k => el_swap xs i j k (by omega) (by omega)
  refine ⟨fun c c0 cn hpc _ => ?_, fun c c0 cn hpc _ => ?_⟩
  · have hpc2 := par_lt c0
    rw [E c, E (par c), if_neg (fun e => hpc e.symm)]
    by_cases e1 : j = c
    · subst e1
      rw [if_pos pj.symm, if_pos rfl]
      exact o.of_lt hl
    · rw [if_neg e1]
      by_cases e2 : i = c
      · subst e2
        rw [if_neg (by omega), if_pos rfl]
        have h4 := h.2 j j0 jn pj c0
        exact h4
      · rw [if_neg e2]
        by_cases e3 : i = par c
        · rw [if_pos e3]; exact hm c c0 cn e3.symm
        · rw [if_neg e3]; exact h.1 c c0 cn (fun e => e3 e.symm) (Or.inl (fun e => e2 e.symm))
  · have hpc2 := par_lt c0
    rw [E c, E (par j), pj, if_neg (by omega), if_pos rfl, if_neg (by omega), if_neg (by omega)]
    have h4 := h.1 c c0 cn (by omega) (Or.inl (by omega))
    rw [hpc] at h4; exact h4
theorem Ok.root (o : WO lt) {n : Nat} {xs : List α} (h : Ok z lt n xs) : ∀ k, k < n → le lt (el z xs 0) (el z xs k) := fun k => by
  induction k using Nat.strongRecOn with
  | _ k ih =>
    intro hk
    by_cases h0 : k = 0
    · subst h0; exact o.refl _
    · have hp := par_lt (c := k) (by omega)
      exact o.trans (ih (par k) hp (by omega)) (h k (by omega) hk)
theorem el_app (xs : List α) (x : α) (k : Nat) : el z (xs ++ [x]) k = if k < xs.length then el z xs k else if k = xs.length then x else z := by
  unfold el
  rw [List.getD_eq_getElem?_getD, List.getD_eq_getElem?_getD]
  by_cases h : k < xs.length
  · rw [if_pos h, List.getElem?_append_left h]
  · rw [if_neg h, List.getElem?_append_right (by omega)]
    by_cases h2 : k = xs.length
    · subst h2; simp
    · rw [if_neg h2, List.getElem?_eq_none (by simp; omega)]; rfl
theorem Ok.push {xs : List α} (h : Ok z lt xs.length xs) (x : α) : Up z lt (xs.length + 1) (xs ++ [x]) xs.length :=
  ⟨fun c c0 cn hc => by
    have hp := par_lt c0
    rw [el_app, el_app, if_pos (by omega), if_pos (by omega)]
    exact h c c0 (by omega), fun c c0 cn hc h0 => by have := par_lt c0; omega⟩
theorem Ok.remove (o : WO lt) {n : Nat} {xs : List α} (h : Ok z lt (n + 1) xs) (hn : n < xs.length) {i : Nat} (hi : i < n) : Dn z lt n (swap z xs i n) i false := by
  have E : ∀ k, el z (swap z xs i n) k = if n = k then el z xs i else if i = k then el z xs n else el z xs k := fun k => el_swap xs i n k (by omega) (by omega)
  refine ⟨fun c c0 cn hpc hc => ?_, fun c c0 cn hpc h0 => ?_⟩
  · have hp := par_lt c0
    have hc : c ≠ i := by rcases hc with h | h; exact h; cases h
    rw [E c, E (par c), if_neg (by omega), if_neg (by omega), if_neg (by omega), if_neg (by omega)]
    exact h c c0 (by omega)
  · have hp := par_lt c0
    have hp2 := par_lt h0
    rw [E c, E (par i), if_neg (by omega), if_neg (by omega), if_neg (by omega), if_neg (by omega)]
    have h4 := h c c0 (by omega)
    rw [hpc] at h4
    exact o.trans (h i h0 (by omega)) h4
theorem Ok.less {n m : Nat} {xs : List α} (h : Ok z lt n xs) (hm : m ≤ n) : Ok z lt m xs := fun c c0 cn => h c c0 (by omega)
theorem Ok.take {n : Nat} {xs : List α} (h : Ok z lt n xs) : Ok z lt n (xs.take n) := fun c c0 cn => by
  have hp := par_lt c0
  have e : ∀ k, k < n → el z (xs.take n) k = el z xs k := fun k hk => by unfold el; rw [List.getD_eq_getElem?_getD, List.getD_eq_getElem?_getD, List.getElem?_take_of_lt hk]
  rw [e c cn, e (par c) (by omega)]
  exact h c c0 cn
end Go.Proofs.Ytjgoddieamphpaa.Heap
namespace Go.Proofs.Ytjgoddieamphpaa.Wh
open Go.RowKit Go.Sort Go.Proofs.YtjgoddieamphpaaW.PrintWords Go.Proofs.YtjgoddieamphpaaW.PrintLast Heap Go.Proofs.Ytjgoddieamphpaa.Obj
set_option maxRecDepth 100000
set_option linter.unusedVariables false
/-- What ends: its block, its key, when. -/
abbrev It := Nat × ByteArray × Int
def z0 : It := (0, ⟨#[]⟩, 0)
def bl (a b : ByteArray) : Bool := Op.bytesLess a.toList b.toList
def lessI (a b : It) : Bool := decide (a.2.2 < b.2.2) || (decide (a.2.2 = b.2.2) && bl a.2.1 b.2.1)
theorem bl_iff (a b : ByteArray) : bl a b = true ↔ a.data.toList < b.data.toList := by
  unfold bl
  rw [bytesLess_eq, ByteArray.toList_eq, ByteArray.toList_eq]
  exact decide_eq_true_iff
theorem lessI_wo : WO lessI := by
  have tr : ∀ a b c : List UInt8, a < b → b < c → a < c := fun a b c h k => List.lt_trans h k
  refine ⟨fun a => ?_, fun a b c h k => ?_, fun a b c h k => ?_⟩
  · unfold lessI
    have : ¬ bl a.2.1 a.2.1 = true := by rw [bl_iff]; exact List.lt_irrefl _
    simp [this]
  · unfold lessI at *
    simp only [Bool.or_eq_true, Bool.and_eq_true, decide_eq_true_eq, bl_iff] at *
    rcases h with h | ⟨h, h'⟩ <;> rcases k with k | ⟨k, k'⟩
    · exact .inl (by omega)
    · exact .inl (by omega)
    · exact .inl (by omega)
    · exact .inr ⟨by omega, tr _ _ _ h' k'⟩
  · have e : ∀ x y : It, lessI x y = false ↔ ¬ (x.2.2 < y.2.2 ∨ x.2.2 = y.2.2 ∧ x.2.1.data.toList < y.2.1.data.toList) := fun x y => by
      unfold lessI
      rw [← Bool.not_eq_true]
      simp only [Bool.or_eq_true, Bool.and_eq_true, decide_eq_true_eq, bl_iff]
    rw [e] at *
    rintro (q | ⟨q, q'⟩)
    · by_cases h1 : a.2.2 < b.2.2
      · exact h (.inl h1)
      · exact k (.inl (by omega))
    · by_cases h1 : a.2.2 < b.2.2
      · exact h (.inl h1)
      · by_cases h2 : b.2.2 < c.2.2
        · exact k (.inl h2)
        · have e1 : ¬ a.2.1.data.toList < b.2.1.data.toList := fun h3 => h (.inr ⟨by omega, h3⟩)
          have e2 : ¬ b.2.1.data.toList < c.2.1.data.toList := fun h3 => k (.inr ⟨by omega, h3⟩)
          exact absurd q' (List.not_lt.2 (List.le_trans (List.not_lt.1 e2) (List.not_lt.1 e1)))
def ptr (n : Nat) : Value := .pointer (some ⟨n, 0, none⟩)
/-- The row of a wheel in memory: its cell, its items, each with its place. -/
structure WR (w : World) (p : Nat) (u v : Value) (xs : List It) : Prop where
  hd : w.heap[p]? = some (.cells #[v, u] 108 (0, 0))
  row : w.ownsRow 0 109 1 v xs.length (xs.map fun x => ptr x.1)
  it : ∀ i, i < xs.length → w.heap[(el z0 xs i).1]? = some (.cells #[.string (el z0 xs i).2.1, .int .i64 (el z0 xs i).2.2, .int .i64 (i : Nat)] 111 (0, 0))
  bn : (xs.map (·.1)).Nodup
  few : xs.length ≤ 10000
section
variable {w w1 : World} {p : Nat} {u v : Value} {xs : List It}
theorem WR.c0 (h : WR w p u v xs) : w.cell? ⟨p, 0, none⟩ = some v := (blk_cell h.hd 0).trans rfl
theorem WR.c1 (h : WR w p u v xs) : w.cell? ⟨p, 1, none⟩ = some u := (blk_cell h.hd 1).trans rfl
theorem WR.slice (h : WR w p u v xs) : ∃ A c, v = .slice A xs.length c ∧ xs.length ≤ c := by
  rcases h.row.2 with ⟨e, e0⟩ | ⟨g, cap, cur, e, _, _, h1, _⟩
  · exact ⟨none, 0, by rw [e, e0], by omega⟩
  · exact ⟨_, cap, e, h1⟩
/-- The row's cells. -/
theorem WR.open_ (h : WR w p u v xs) (h0 : 0 < xs.length) : ∃ g cap cur, v = .slice (some ⟨g, 0, none⟩) xs.length cap ∧ w.heap[g]? = some (.cells cur 109 (0, 0)) ∧ xs.length ≤ cap ∧ ∀ i, i < xs.length → cur[i]? = some (ptr (el z0 xs i).1) := by
  obtain ⟨hl, ⟨e, e0⟩ | ⟨g, cap, cur, e, _, hb, h1, h2, h3, h4⟩⟩ := h.row
  · omega
  · refine ⟨g, cap, cur, e, hb, h1, fun i hi => ?_⟩
    have h5 : (cur.toList.take (xs.length * 1))[i]? = some (ptr (el z0 xs i).1) := by
      rw [h4, List.getElem?_map, el_at xs i hi]; rfl
    rw [List.getElem?_take_of_lt (by omega)] at h5
    simpa using h5
theorem WR.cell (h : WR w p u v xs) (i : Nat) (hi : i < xs.length) : ∃ (ad : Addr) (c : Nat), v = .slice (some ad) xs.length c ∧ xs.length ≤ c ∧ w.cell? (ad.add i) = some (ptr (el z0 xs i).1) := by
  obtain ⟨g, cap, cur, e, hb, h1, h2⟩ := h.open_ (by omega)
  refine ⟨_, cap, e, h1, ?_⟩
  have := blk_cell hb i
  rw [h2 i hi] at this
  have e1 : (Addr.add ⟨g, 0, none⟩ i) = ⟨g, i, none⟩ := by simp [Addr.add]; omega
  rw [e1]; exact this
theorem WR.k0 (h : WR w p u v xs) (i : Nat) (hi : i < xs.length) : w.cell? ⟨(el z0 xs i).1, 0, none⟩ = some (.string (el z0 xs i).2.1) := (blk_cell (h.it i hi) 0).trans rfl
theorem WR.k1 (h : WR w p u v xs) (i : Nat) (hi : i < xs.length) : w.cell? ⟨(el z0 xs i).1, 1, none⟩ = some (.int .i64 (el z0 xs i).2.2) := (blk_cell (h.it i hi) 1).trans rfl
theorem WR.k2 (h : WR w p u v xs) (i : Nat) (hi : i < xs.length) : w.cell? ⟨(el z0 xs i).1, 2, none⟩ = some (.int .i64 (i : Nat)) := (blk_cell (h.it i hi) 2).trans rfl
theorem WR.drewN (h : WR w p u v xs) (n : Nat) : WR (w.drewN n) p u v xs := ⟨h.hd, h.row, h.it, h.bn, h.few⟩
theorem meth_less (p : Nat) (v : Value) (w : World) (h : w.cell? ⟨p, 0, none⟩ = some v) : (method 276 113 (.pointer (some ⟨p, 0, none⟩)) "Less").run Try.prog w = .ok (134, v) w := by
  have e : (isAgg 106).run Try.prog w = .ok false w := by rfl
  show (loadVar 106 ⟨p, 0, none⟩ >>= fun x => pure ((134 : FuncId), x)).run Try.prog w = _
  unfold loadVar
  simp [Sem.run_bind, e, Result.andThen, h]
theorem meth_len (p : Nat) (v : Value) (w : World) (h : w.cell? ⟨p, 0, none⟩ = some v) : (method 276 113 (.pointer (some ⟨p, 0, none⟩)) "Len").run Try.prog w = .ok (133, v) w := by
  have e : (isAgg 106).run Try.prog w = .ok false w := by rfl
  show (loadVar 106 ⟨p, 0, none⟩ >>= fun x => pure ((133 : FuncId), x)).run Try.prog w = _
  unfold loadVar
  simp [Sem.run_bind, e, Result.andThen, h]
theorem meth_swap (p : Nat) (v : Value) (w : World) (h : w.cell? ⟨p, 0, none⟩ = some v) : (method 276 113 (.pointer (some ⟨p, 0, none⟩)) "Swap").run Try.prog w = .ok (135, v) w := by
  have e : (isAgg 106).run Try.prog w = .ok false w := by rfl
  show (loadVar 106 ⟨p, 0, none⟩ >>= fun x => pure ((135 : FuncId), x)).run Try.prog w = _
  unfold loadVar
  simp [Sem.run_bind, e, Result.andThen, h]
theorem meth_pop (p : Nat) (w : World) : (method 276 113 (.pointer (some ⟨p, 0, none⟩)) "Pop").run Try.prog w = .ok (136, .pointer (some ⟨p, 0, none⟩)) w := by rfl
theorem meth_push (p : Nat) (w : World) : (method 276 113 (.pointer (some ⟨p, 0, none⟩)) "Push").run Try.prog w = .ok (137, .pointer (some ⟨p, 0, none⟩)) w := by rfl
theorem wlen_any (h : WR w p u v xs) : Calls Try.prog 133 #[v] w fun e w' => e = .returned (.int .i64 (xs.length : Nat)) ∧ w = w' := by
  obtain ⟨A, c, rfl, hc⟩ := h.slice
  clear h
  go_enter Try.func133, Try.ntmps133
  go_wp2
  go_ret
  exact ⟨rfl, rfl⟩
theorem wless_any (h : WR w p u v xs) (i j : Nat) (hi : i < xs.length) (hj : j < xs.length) : Calls Try.prog 134 #[v, .int .i64 (i : Int), .int .i64 (j : Int)] w fun e w' => e = .returned (.bool (lessI (el z0 xs i) (el z0 xs j))) ∧ ∃ n, w' = w.drewN n := by
  obtain ⟨ad, c, rfl, hc, q1⟩ := h.cell i hi
  obtain ⟨ad2, c2, e2, hc2, q2⟩ := h.cell j hj
  injection e2 with e2 e3 e4
  injection e2 with e2
  subst e2
  clear e3 e4 hc2
  have a1 := h.k1 i hi
  have a2 := h.k1 j hj
  have b1 := h.k0 i hi
  have b2 := h.k0 j hj
  clear h
  generalize hx : el z0 xs i = X at *
  generalize hy : el z0 xs j = Y at *
  obtain ⟨x, kx, tx⟩ := X
  obtain ⟨y, ky, ty⟩ := Y
  clear hx hy
  simp only [ptr] at q1 q2 a1 a2 b1 b2
  rw [show lessI (x, kx, tx) (y, ky, ty) = (decide (tx < ty) || (decide (tx = ty) && bl kx ky)) from rfl]
  unfold bl
  by_cases h1 : tx < ty
  · have g1 : decide (tx < ty) = true := decide_eq_true h1
    rw [g1]
    clear h1
    go_enter Try.func134, Try.ntmps134
    go_wp2
    go_quiet (fail)
    go_wp2
    go_ret
    exact ⟨rfl, _, rfl⟩
  · have g1 : decide (tx < ty) = false := decide_eq_false h1
    by_cases h2 : tx = ty
    · subst h2
      have g2 : (tx == tx) = true := by simp
      rw [g1, decide_eq_true rfl]
      clear h1
      go_enter Try.func134, Try.ntmps134
      go_wp2
      go_quiet (fail)
      go_wp2
      go_ret
      exact ⟨by simp, _, rfl⟩
    · have g2 : (tx == ty) = false := by simpa using h2
      rw [g1, decide_eq_false h2]
      clear h1 h2
      go_enter Try.func134, Try.ntmps134
      go_wp2
      go_quiet (fail)
      go_wp2
      go_ret
      exact ⟨rfl, _, rfl⟩
end
end Go.Proofs.Ytjgoddieamphpaa.Wh
namespace Go.Proofs.Ytjgoddieamphpaa.Wh
open Go.RowKit Go.Sort Go.Proofs.YtjgoddieamphpaaW.PrintWords Go.Proofs.YtjgoddieamphpaaW.PrintLast Heap Go.Proofs.Ytjgoddieamphpaa.Obj
set_option maxRecDepth 100000
set_option linter.unusedVariables false
theorem swap_walk {w : World} {g cap n i j qi qj : Nat} {cur ci cj : Array Value} (hg : w.heap[g]? = some (.cells cur 109 (0, 0))) (hn : n ≤ cap) (hi : i < n) (hj : j < n) (hij : i ≠ j) (h1 : cur[i]? = some (ptr qi)) (h2 : cur[j]? = some (ptr qj))
    (hqi : w.heap[qi]? = some (.cells ci 111 (0, 0))) (hqj : w.heap[qj]? = some (.cells cj 111 (0, 0))) (hci : ci.size = 3) (hcj : cj.size = 3) (hq : qi ≠ qj) :
    Calls Try.prog 135 #[.slice (some ⟨g, 0, none⟩) n cap, .int .i64 (i : Int), .int .i64 (j : Int)] w fun e w' => e = .returned (.tuple #[]) ∧
      w'.heap[g]? = some (.cells ((cur.set! i (ptr qj)).set! j (ptr qi)) 109 (0, 0)) ∧ w'.heap[qi]? = some (.cells (ci.set! 2 (.int .i64 (j : Int))) 111 (0, 0)) ∧ w'.heap[qj]? = some (.cells (cj.set! 2 (.int .i64 (i : Int))) 111 (0, 0)) ∧ Frm (fun b => b = g ∨ b = qi ∨ b = qj) w w' := by
  have r1 : w.cell? ⟨g, i, none⟩ = some (ptr qi) := (blk_cell hg i).trans h1
  have r2 : w.cell? ⟨g, j, none⟩ = some (ptr qj) := (blk_cell hg j).trans h2
  have f1 := blk_frozen hg i
  have f2 := blk_frozen hg j
  have e1 : (Addr.add ⟨g, 0, none⟩ i) = ⟨g, i, none⟩ := by simp [Addr.add]; omega
  have e2 : (Addr.add ⟨g, 0, none⟩ j) = ⟨g, j, none⟩ := by simp [Addr.add]; omega
  simp only [ptr] at r1 r2
  have hgi : qi ≠ g := blk_ne hqi hg (by decide)
  have hgj : qj ≠ g := blk_ne hqj hg (by decide)
  have HG := Lib.hid hg
  go_enter Try.func135, Try.ntmps135
  go_wp2_with fail
  go_region
  obtain ⟨w2, hw2⟩ : ∃ w2, w2 = ((w.setCell ⟨g, i, none⟩ (.pointer (some ⟨qj, 0, none⟩))).setCell ⟨g, j, none⟩ (.pointer (some ⟨qi, 0, none⟩))).drew := ⟨_, rfl⟩
  rw [← hw2]
  have b1 : w2.heap[g]? = some (.cells ((cur.setIfInBounds i (ptr qj)).setIfInBounds j (ptr qi)) 109 (0, 0)) := by
    rw [hw2]; exact blk_drewN (blk_put (blk_put hg i _ rfl) j _ rfl) 1
  have b2 : w2.heap[qi]? = some (.cells ci 111 (0, 0)) := by
    rw [hw2]; exact blk_drewN (blk_far (blk_far hqi hgi _) hgi _) 1
  have b3 : w2.heap[qj]? = some (.cells cj 111 (0, 0)) := by
    rw [hw2]; exact blk_drewN (blk_far (blk_far hqj hgj _) hgj _) 1
  have hf2 : Frm (fun b => b = g ∨ b = qi ∨ b = qj) w w2 := by
    rw [hw2]; exact (((Frm.refl _ w).setCell (.inl (.inl rfl)) _).setCell (.inl (.inl rfl)) _).drew
  have HF2 := Lib.hid hf2
  have HB1 := Lib.hid b1
  have HB2 := Lib.hid b2
  have HB3 := Lib.hid b3
  have hi2 : i < cur.size := (Array.getElem?_eq_some_iff.1 h1).1
  have hj2 : j < cur.size := (Array.getElem?_eq_some_iff.1 h2).1
  have s1 : w2.cell? ⟨g, i, none⟩ = some (ptr qj) := (blk_cell b1 i).trans (by rw [Array.getElem?_setIfInBounds, if_neg (Ne.symm hij), Array.getElem?_setIfInBounds, if_pos rfl]; simp [hi2])
  have s2 : w2.cell? ⟨g, j, none⟩ = some (ptr qi) := (blk_cell b1 j).trans (by rw [Array.getElem?_setIfInBounds, if_pos rfl]; simp [hj2])
  obtain ⟨y1, hy1⟩ : ∃ y, ci[2]? = some y := ⟨ci[2], Array.getElem?_eq_getElem (by omega)⟩
  obtain ⟨y2, hy2⟩ : ∃ y, cj[2]? = some y := ⟨cj[2], Array.getElem?_eq_getElem (by omega)⟩
  have t3 : w2.cell? ⟨qi, 2, none⟩ = some y1 := (blk_cell b2 2).trans hy1
  have t4 : w2.cell? ⟨qj, 2, none⟩ = some y2 := (blk_cell b3 2).trans hy2
  clear hy1 hy2
  have f3 := blk_frozen b2 2
  have f4 := blk_frozen b3 2
  clear r1 r2 f1 f2 h1 h2 hqi hqj hg hw2 hf2 b1 b2 b3 hi2 hj2
  simp only [ptr] at s1 s2
  go_wp2_with fail
  go_region
  go_wp2
  go_end0
  refine ⟨rfl, blk_drewN (blk_far (blk_far HB1.out (Ne.symm hgj) _) (Ne.symm hgi) _) 1, blk_drewN (blk_put (blk_far HB2.out hq _) 2 _ rfl) 1, blk_drewN (blk_far (blk_put HB3.out 2 _ rfl) (Ne.symm hq) _) 1, ((HF2.out.setCell (.inl (.inr (.inr rfl))) _).setCell (.inl (.inr (.inl rfl))) _).drew⟩
/-- What the heap's functions write: the row's block, its items. -/
def FW (v : Value) (xs : List It) (b : Nat) : Prop := some b = v.ownBlock ∨ b ∈ xs.map (·.1)
theorem FW.perm {v : Value} {xs ys : List It} (h : xs.Perm ys) (b : Nat) (k : FW v xs b) : FW v ys b := k.imp id (fun k => (h.map (·.1)).mem_iff.1 k)
theorem el_ne {xs : List It} (h : (xs.map (·.1)).Nodup) {i j : Nat} (hi : i < xs.length) (hj : j < xs.length) (hij : i ≠ j) : (el z0 xs i).1 ≠ (el z0 xs j).1 := fun e => by
  have h1 : (xs.map (·.1))[i]? = some (el z0 xs i).1 := by rw [List.getElem?_map, el_at xs i hi]; rfl
  have h2 : (xs.map (·.1))[j]? = some (el z0 xs j).1 := by rw [List.getElem?_map, el_at xs j hj]; rfl
  obtain ⟨k1, e1⟩ := List.getElem?_eq_some_iff.1 h1
  obtain ⟨k2, e2⟩ := List.getElem?_eq_some_iff.1 h2
  exact hij ((List.getElem_inj h).1 (by rw [e1, e2, e]))
theorem wswap_any {w : World} {p : Nat} {u v : Value} {xs : List It} (h : WR w p u v xs) (i j : Nat) (hi : i < xs.length) (hj : j < xs.length) (hij : i ≠ j) :
    Calls Try.prog 135 #[v, .int .i64 (i : Int), .int .i64 (j : Int)] w fun e w' => e = .returned (.tuple #[]) ∧ WR w' p u v (swap z0 xs i j) ∧ Frm (FW v xs) w w' := by
  obtain ⟨g, cap, cur, rfl, hg, hc, hr⟩ := h.open_ (by omega)
  have hq := el_ne h.bn hi hj hij
  refine (swap_walk hg hc hi hj hij (hr i hi) (hr j hj) (h.it i hi) (h.it j hj) rfl rfl hq).mono ?_
  rintro e w' ⟨rfl, k1, k2, k3, kf⟩
  have hlen : (swap z0 xs i j).length = xs.length := swap_len xs i j
  have hmem : ∀ k, k < xs.length → (el z0 xs k).1 ∈ xs.map (·.1) := fun k hk => List.mem_map.2 ⟨_, el_mem xs k hk, rfl⟩
  have hgo : ∀ b cs t, w.heap[b]? = some (.cells cs t (0, 0)) → b ≠ g → (∀ k, k < xs.length → k = i ∨ k = j → b ≠ (el z0 xs k).1) → w'.heap[b]? = some (.cells cs t (0, 0)) := fun b cs t hb h1 h2 => kf.blk hb (by rintro (e | e | e); exact h1 e; exact h2 i hi (.inl rfl) e; exact h2 j hj (.inr rfl) e)
  refine ⟨rfl, ⟨?_, ?_, ?_, ?_, by rw [hlen]; exact h.few⟩, kf.mono (fun b hb hF => ?_)⟩
  · refine hgo p _ _ h.hd (blk_ne h.hd hg (by decide)) (fun k hk _ => blk_ne h.hd (h.it k hk) (by decide))
  · rw [hlen]
    obtain ⟨hl, ⟨e, _⟩ | ⟨g', cap', cur', e, h0, hb, q1, q2, q3, q4⟩⟩ := h.row
    · cases e
    · injection e with e1 e2 e3
      injection e1 with e1
      injection e1 with e1
      subst e1; subst e3
      rw [hg] at hb
      injection hb with hb
      injection hb with hb
      subst hb
      refine ⟨by rw [List.length_map, hlen]; omega, .inr ⟨g, cap, _, rfl, Nat.zero_le _, k1, q1, q2, by simpa using q3, ?_⟩⟩
      apply List.ext_getElem?
      intro k
      have hcs : xs.length ≤ cur.size := by omega
      by_cases hk : k < xs.length
      · rw [List.getElem?_take_of_lt (by omega), List.getElem?_map, el_at (z := z0) _ k (by rw [hlen]; exact hk), el_swap xs i j k hi hj]
        show (Array.toList _)[k]? = some (ptr _)
        rw [Array.getElem?_toList, Array.set!_eq_setIfInBounds, Array.set!_eq_setIfInBounds, Array.getElem?_setIfInBounds]
        by_cases e1 : j = k
        · rw [if_pos e1, if_pos e1, if_pos (by simp; omega)]
        · rw [if_neg e1, if_neg e1, Array.getElem?_setIfInBounds]
          by_cases e2 : i = k
          · rw [if_pos e2, if_pos e2, if_pos (by omega)]
          · rw [if_neg e2, if_neg e2, hr k hk]
      · rw [List.getElem?_eq_none (by simp; omega), List.getElem?_eq_none (by simp [hlen]; omega)]
  · intro k hk
    rw [hlen] at hk
    rw [el_swap xs i j k hi hj]
    by_cases e1 : j = k
    · subst e1
      rw [if_pos rfl]; exact k2
    · rw [if_neg e1]
      by_cases e2 : i = k
      · subst e2
        rw [if_pos rfl]; exact k3
      · rw [if_neg e2]
        refine hgo _ _ _ (h.it k hk) (blk_ne (h.it k hk) hg (by decide)) ?_
        rintro q hq2 (rfl | rfl)
        · exact el_ne h.bn hk hq2 (fun e => e2 e.symm)
        · exact el_ne h.bn hk hq2 (fun e => e1 e.symm)
  · exact ((swap_perm xs i j hi hj).map (·.1)).nodup_iff.2 h.bn
  · rcases hF with rfl | rfl | rfl
    · exact .inl rfl
    · exact .inr (hmem i hi)
    · exact .inr (hmem j hj)
end Go.Proofs.Ytjgoddieamphpaa.Wh
namespace Go.Proofs.Ytjgoddieamphpaa.Wh
open Go.RowKit Go.Sort Go.Proofs.YtjgoddieamphpaaW.PrintWords Go.Proofs.YtjgoddieamphpaaW.PrintLast Heap Go.Proofs.Ytjgoddieamphpaa.Obj
set_option maxRecDepth 100000
set_option linter.unusedVariables false
/-- A state while items change their places. -/
structure HS (w0 w : World) (p : Nat) (u v : Value) (xs xs' : List It) : Prop where
  r : WR w p u v xs'
  pm : xs'.Perm xs
  f : Frm (FW v xs) w0 w
theorem HS.len {w0 w : World} {p : Nat} {u v : Value} {xs xs' : List It} (h : HS w0 w p u v xs xs') : xs'.length = xs.length := h.pm.length_eq
theorem HS.less {w0 w : World} {p : Nat} {u v : Value} {xs xs' : List It} (h : HS w0 w p u v xs xs') (i j : Nat) (hi : i < xs.length) (hj : j < xs.length) (b : Bool) (hb : lessI (el z0 xs' i) (el z0 xs' j) = b) :
    Calls Try.prog 134 #[v, .int .i64 (i : Int), .int .i64 (j : Int)] w fun e w' => e = .returned (.bool b) ∧ HS w0 w' p u v xs xs' ∧ w'.cell? ⟨p, 0, none⟩ = some v := by
  subst hb
  refine (wless_any h.r i j (by rw [h.len]; exact hi) (by rw [h.len]; exact hj)).mono ?_
  rintro e w' ⟨a, n, rfl⟩
  exact ⟨a, ⟨h.r.drewN n, h.pm, h.f.drewN n⟩, (h.r.drewN n).c0⟩
theorem HS.swap {w0 w : World} {p : Nat} {u v : Value} {xs xs' : List It} (h : HS w0 w p u v xs xs') (i j : Nat) (hi : i < xs.length) (hj : j < xs.length) (hij : i ≠ j) :
    Calls Try.prog 135 #[v, .int .i64 (i : Int), .int .i64 (j : Int)] w fun e w' => e = .returned (.tuple #[]) ∧ HS w0 w' p u v xs (Heap.swap z0 xs' i j) := by
  have hi' : i < xs'.length := by rw [h.len]; exact hi
  have hj' : j < xs'.length := by rw [h.len]; exact hj
  refine (wswap_any h.r i j hi' hj' hij).mono ?_
  rintro e w' ⟨a, k, kf⟩
  exact ⟨a, ⟨k, (swap_perm xs' i j hi' hj').trans h.pm, h.f.trans (kf.mono fun b _ hb => FW.perm h.pm b hb)⟩⟩
theorem up_any {w : World} {p n : Nat} {u v : Value} {xs : List It} (h : WR w p u v xs) (hn : n ≤ xs.length) (j : Nat) (hj : j < n) (hu : Up z0 lessI n xs j) :
    Calls Try.prog 87 #[.iface 113 (.pointer (some ⟨p, 0, none⟩)), .int .i64 (j : Int)] w fun e w' => e = .returned (.tuple #[]) ∧ ∃ xs', HS w w' p u v xs xs' ∧ Ok z0 lessI n xs' ∧ ∀ k, n ≤ k → el z0 xs' k = el z0 xs k := by
  have hfew := h.few
  have HP := Aside0.mk (show HS w w p u v xs xs from ⟨h, List.Perm.refl _, Frm.refl _ w⟩)
  have HU := Lib.hid hu
  clear h hu
  go_enter Try.func87, Try.ntmps87
  go_wp2
  go_loopw [1] (fun v1 wr => ∃ (j : Nat) (ys : List It), v1 = .int .i64 (j : Nat) ∧ j < n ∧ Aside0 (HS w wr p u v xs ys) ∧ Aside0 (Up z0 lessI n ys j ∧ ∀ k, n ≤ k → el z0 ys k = el z0 xs k)) (fun v1 _ => (intOf v1).toNat)
  case atStart => exact ⟨j, xs, rfl, hj, HP, ⟨HU.out, fun _ _ => rfl⟩⟩
  case round =>
    clear HP HU hj
    obtain ⟨j, ys, rfl, hj, HP, HU⟩ := hrel
    by_cases h0 : j = 0
    · subst h0
      go_wp2
      go_end0
      exact ⟨rfl, ys, HP.out, HU.out.1.stop0, HU.out.2⟩
    · have e1 : Int.tdiv ((j : Int) - 1) 2 = (par j : Nat) := by rw [Int.tdiv_eq_ediv_of_nonneg (by omega)]; unfold par; omega
      have e2 : ((par j : Int) == (j : Int)) = false := by have := par_lt (c := j) (by omega); simp; omega
      have hpl := par_lt (c := j) (by omega)
      have c0 := HP.out.r.c0
      cases hl : lessI (el z0 ys j) (el z0 ys (par j)) with
      | false =>
        have HL := Lib.hid hl
        have hm := meth_less p v _ c0
        clear hl
        go_wp2_with fail
        (with_reducible refine (HP.out.less j (par j) (by omega) (by omega) false HL.out).mono ?_); rintro e w2 ⟨rfl, hs2, c2⟩
        have HP2 := Aside0.mk hs2
        clear hs2
        go_wp2
        go_end0
        exact ⟨rfl, ys, HP2.out, HU.out.1.stop HL.out, HU.out.2⟩
      | true =>
        have HL := Lib.hid hl
        have hm := meth_less p v _ c0
        clear hl
        go_wp2_with fail
        (with_reducible refine (HP.out.less j (par j) (by omega) (by omega) true HL.out).mono ?_); rintro e w2 ⟨rfl, hs2, c2⟩
        have HP2 := Aside0.mk hs2
        clear hs2
        have hm2 := meth_swap p v _ c2
        go_wp2_with fail
        (with_reducible refine (HP2.out.swap (par j) j (by omega) (by omega) (by omega)).mono ?_); rintro e w3 ⟨rfl, hs3⟩
        have HP3 := Aside0.mk hs3
        clear hs3
        go_wp2
        go_roundw
        case rel => exact ⟨par j, _, rfl, by omega, HP3, ⟨HU.out.1.step lessI_wo (by rw [HP.out.len]; omega) (by omega) hj HL.out, fun k hk => by rw [el_swap ys (par j) j k (by rw [HP.out.len]; omega) (by rw [HP.out.len]; omega), if_neg (by omega), if_neg (by omega)]; exact HU.out.2 k hk⟩⟩
        case measure => simp [intOf]; omega
theorem HS.drewN {w0 w : World} {p : Nat} {u v : Value} {xs xs' : List It} (h : HS w0 w p u v xs xs') (n : Nat) : HS w0 (w.drewN n) p u v xs xs' := ⟨h.r.drewN n, h.pm, h.f.drewN n⟩
end Go.Proofs.Ytjgoddieamphpaa.Wh
namespace Go.Proofs.Ytjgoddieamphpaa.Wh
open Go.RowKit Go.Sort Go.Proofs.YtjgoddieamphpaaW.PrintWords Go.Proofs.YtjgoddieamphpaaW.PrintLast Heap Go.Proofs.Ytjgoddieamphpaa.Obj
set_option maxRecDepth 100000
set_option linter.unusedVariables false
/-- A state of a step down. -/
structure DS (w0 w : World) (p : Nat) (u v : Value) (n i0 i : Nat) (b : Bool) (xs ys : List It) : Prop where
  h : HS w0 w p u v xs ys
  dn : Dn z0 lessI n ys i b
  lo : i0 ≤ i
  lt : decide (i0 < i) = b
  tl : ∀ k, n ≤ k → el z0 ys k = el z0 xs k
theorem DS.stop {w0 w : World} {p n i0 i : Nat} {u v : Value} {b : Bool} {xs ys : List It} (h : DS w0 w p u v n i0 i b xs ys) (hs : ∀ c, 0 < c → c < n → par c = i → le lessI (el z0 ys i) (el z0 ys c)) : (b = true → Ok z0 lessI n ys) ∧ (b = false → Up z0 lessI n ys i0) := by
  refine ⟨fun e => ?_, fun e => ?_⟩
  · subst e; exact h.dn.stop hs
  · have : i = i0 := by have h1 := h.lt; rw [e] at h1; have := of_decide_eq_false h1; have := h.lo; omega
    subst this; exact h.dn.stop_up hs
theorem DS.step {w0 w w1 : World} {p n i0 i j : Nat} {u v : Value} {b : Bool} {xs ys : List It} (h : DS w0 w p u v n i0 i b xs ys) (hn : n ≤ xs.length) (k : HS w0 w1 p u v xs (Heap.swap z0 ys i j)) (hL : Least z0 lessI n ys i j) (hl : lessI (el z0 ys j) (el z0 ys i) = true) : DS w0 w1 p u v n i0 j true xs (Heap.swap z0 ys i j) := by
  have h1 := hL.1
  have h2 := hL.2.1
  have h3 : i < j := by have := par_lt h1; have := hL.2.2.1; omega
  have hlen := h.h.len
  refine ⟨k, h.dn.step lessI_wo (by omega) hL hl, by have := h.lo; omega, decide_eq_true (by have := h.lo; omega), fun q hq => ?_⟩
  rw [el_swap ys i j q (by omega) (by omega), if_neg (by omega), if_neg (by omega)]
  exact h.tl q hq
set_option maxHeartbeats 2000000 in
theorem down_any {w : World} {p n : Nat} {u v : Value} {xs : List It} (h : WR w p u v xs) (hn : n ≤ xs.length) (i0 : Nat) (hi : i0 < n) (hd : Dn z0 lessI n xs i0 false) :
    Calls Try.prog 88 #[.iface 113 (.pointer (some ⟨p, 0, none⟩)), .int .i64 (i0 : Int), .int .i64 (n : Int)] w fun e w' => ∃ b ys, e = .returned (.bool b) ∧ HS w w' p u v xs ys ∧ (∀ k, n ≤ k → el z0 ys k = el z0 xs k) ∧ (b = true → Ok z0 lessI n ys) ∧ (b = false → Up z0 lessI n ys i0) := by
  have hfew := h.few
  have HP := Aside0.mk (show DS w w p u v n i0 i0 false xs xs from ⟨⟨h, List.Perm.refl _, Frm.refl _ w⟩, hd, Nat.le_refl _, by simp, fun _ _ => rfl⟩)
  clear h hd
  go_enter Try.func88, Try.ntmps88
  go_wp2
  go_loopw [7] (fun v7 wr => ∃ (i : Nat) (b : Bool) (ys : List It), v7 = .int .i64 (i : Nat) ∧ i < n ∧ Aside0 (DS w wr p u v n i0 i b xs ys)) (fun v7 _ => n - (intOf v7).toNat)
  case atStart => exact ⟨i0, false, xs, rfl, hi, HP⟩
  case round =>
    clear HP hi
    obtain ⟨i, b, ys, rfl, hi, HP⟩ := hrel
    have z1 : decide ((i0 : Int) < (i : Int)) = b := by rw [← HP.out.lt]; by_cases q : i0 < i; rw [decide_eq_true q, decide_eq_true (by omega)]; rw [decide_eq_false q, decide_eq_false (by omega)]
    have z2 : decide (i0 < i) = b := HP.out.lt
    have w1 : IntKind.i64.wrap (2 * (i : Int)) = 2 * (i : Int) := by rw [IntKind.wrap_i64]; omega
    have z3 : decide (2 * (i : Int) + 1 < 0) = false := decide_eq_false (by omega)
    have z4 : decide (((2 * i + 1 : Nat) : Int) < 0) = false := decide_eq_false (by omega)
    by_cases hA : n ≤ 2 * i + 1
    · have a1 : decide ((n : Int) ≤ 2 * (i : Int) + 1) = true := decide_eq_true (by omega)
      go_wp2
      go_ret
      exact ⟨b, ys, by first | rfl | simp, HP.out.h, HP.out.tl, HP.out.stop (no_child hA)⟩
    have a1 : decide ((n : Int) ≤ 2 * (i : Int) + 1) = false := decide_eq_false (by omega)
    have c0 := HP.out.h.r.c0
    have q1 : ((2 * i + 1 : Nat) : Int) = 2 * (i : Int) + 1 := by simp
    have q2 : ((2 * i + 2 : Nat) : Int) = 2 * (i : Int) + 1 + 1 := by simp; omega
    by_cases hB : 2 * i + 2 < n
    · have a2 : decide (2 * (i : Int) + 1 + 1 < (n : Int)) = true := decide_eq_true (by omega)
      have hm := meth_less p v _ c0
      cases hl : lessI (el z0 ys (2 * i + 2)) (el z0 ys (2 * i + 1)) with
      | true =>
        have HLs := Aside0.mk (Least.right lessI_wo hB hl)
        have HL := Lib.hid hl
        clear hl
        go_wp2_with fail
        (with_reducible refine (show Calls Try.prog 134 #[v, .int .i64 (2 * (i : Int) + 1 + 1), .int .i64 (2 * (i : Int) + 1)] _ _ from q1 ▸ q2 ▸ HP.out.h.less (2 * i + 2) (2 * i + 1) (by omega) (by omega) true HL.out).mono ?_); rintro e w2 ⟨rfl, hs2, c2⟩
        have HP2 := Aside0.mk (show DS w w2 p u v n i0 i b xs ys from ⟨hs2, HP.out.dn, HP.out.lo, HP.out.lt, HP.out.tl⟩)
        clear hs2 hm
        have hm3 := meth_less p v _ c2
        cases hl3 : lessI (el z0 ys (2 * i + 2)) (el z0 ys i) with
        | false =>
          have HL3 := Lib.hid hl3
          clear hl3
          go_wp2_with fail
          (with_reducible refine (show Calls Try.prog 134 #[v, .int .i64 (2 * (i : Int) + 1 + 1), .int .i64 (i : Int)] _ _ from q2 ▸ HP2.out.h.less (2 * i + 2) i (by omega) (by omega) false HL3.out).mono ?_); rintro e w4 ⟨rfl, hs4, c4⟩
          have HP4 := Aside0.mk (show DS w w4 p u v n i0 i b xs ys from ⟨hs4, HP.out.dn, HP.out.lo, HP.out.lt, HP.out.tl⟩)
          clear hs4 hm3
          go_wp2
          go_ret
          exact ⟨b, ys, by first | rfl | simp, HP4.out.h, HP4.out.tl, HP4.out.stop (HLs.out.stop lessI_wo HL3.out)⟩
        | true =>
          have HL3 := Lib.hid hl3
          clear hl3
          go_wp2_with fail
          (with_reducible refine (show Calls Try.prog 134 #[v, .int .i64 (2 * (i : Int) + 1 + 1), .int .i64 (i : Int)] _ _ from q2 ▸ HP2.out.h.less (2 * i + 2) i (by omega) (by omega) true HL3.out).mono ?_); rintro e w4 ⟨rfl, hs4, c4⟩
          have HP4 := Aside0.mk (show DS w w4 p u v n i0 i b xs ys from ⟨hs4, HP.out.dn, HP.out.lo, HP.out.lt, HP.out.tl⟩)
          clear hs4 hm3
          have hm4 := meth_swap p v _ c4
          go_wp2_with fail
          (with_reducible refine (show Calls Try.prog 135 #[v, .int .i64 (i : Int), .int .i64 (2 * (i : Int) + 1 + 1)] _ _ from q2 ▸ HP4.out.h.swap i (2 * i + 2) (by omega) (by omega) (by omega)).mono ?_); rintro e w5 ⟨rfl, hs5⟩
          have HP5 := Aside0.mk (HP4.out.step hn hs5 HLs.out HL3.out)
          clear hs5
          go_wp2
          go_roundw
          case rel => exact ⟨2 * i + 2, true, _, by first | rfl | (rw [q2]) | simp, by omega, HP5⟩
          case measure => simp [intOf]; omega
      | false =>
        have HLs := Aside0.mk (Least.left lessI_wo (show 2 * i + 1 < n by omega) hl)
        have HL := Lib.hid hl
        clear hl
        go_wp2_with fail
        (with_reducible refine (show Calls Try.prog 134 #[v, .int .i64 (2 * (i : Int) + 1 + 1), .int .i64 (2 * (i : Int) + 1)] _ _ from q1 ▸ q2 ▸ HP.out.h.less (2 * i + 2) (2 * i + 1) (by omega) (by omega) false HL.out).mono ?_); rintro e w2 ⟨rfl, hs2, c2⟩
        have HP2 := Aside0.mk (show DS w w2 p u v n i0 i b xs ys from ⟨hs2, HP.out.dn, HP.out.lo, HP.out.lt, HP.out.tl⟩)
        clear hs2 hm
        have hm3 := meth_less p v _ c2
        cases hl3 : lessI (el z0 ys (2 * i + 1)) (el z0 ys i) with
        | false =>
          have HL3 := Lib.hid hl3
          clear hl3
          go_wp2_with fail
          (with_reducible refine (show Calls Try.prog 134 #[v, .int .i64 (2 * (i : Int) + 1), .int .i64 (i : Int)] _ _ from q1 ▸ HP2.out.h.less (2 * i + 1) i (by omega) (by omega) false HL3.out).mono ?_); rintro e w4 ⟨rfl, hs4, c4⟩
          have HP4 := Aside0.mk (show DS w w4 p u v n i0 i b xs ys from ⟨hs4, HP.out.dn, HP.out.lo, HP.out.lt, HP.out.tl⟩)
          clear hs4 hm3
          go_wp2
          go_ret
          exact ⟨b, ys, by first | rfl | simp, HP4.out.h, HP4.out.tl, HP4.out.stop (HLs.out.stop lessI_wo HL3.out)⟩
        | true =>
          have HL3 := Lib.hid hl3
          clear hl3
          go_wp2_with fail
          (with_reducible refine (show Calls Try.prog 134 #[v, .int .i64 (2 * (i : Int) + 1), .int .i64 (i : Int)] _ _ from q1 ▸ HP2.out.h.less (2 * i + 1) i (by omega) (by omega) true HL3.out).mono ?_); rintro e w4 ⟨rfl, hs4, c4⟩
          have HP4 := Aside0.mk (show DS w w4 p u v n i0 i b xs ys from ⟨hs4, HP.out.dn, HP.out.lo, HP.out.lt, HP.out.tl⟩)
          clear hs4 hm3
          have hm4 := meth_swap p v _ c4
          go_wp2_with fail
          (with_reducible refine (show Calls Try.prog 135 #[v, .int .i64 (i : Int), .int .i64 (2 * (i : Int) + 1)] _ _ from q1 ▸ HP4.out.h.swap i (2 * i + 1) (by omega) (by omega) (by omega)).mono ?_); rintro e w5 ⟨rfl, hs5⟩
          have HP5 := Aside0.mk (HP4.out.step hn hs5 HLs.out HL3.out)
          clear hs5
          go_wp2
          go_roundw
          case rel => exact ⟨2 * i + 1, true, _, by first | rfl | (rw [q1]) | simp, by omega, HP5⟩
          case measure => simp [intOf]; omega
    · have a2 : decide (2 * (i : Int) + 1 + 1 < (n : Int)) = false := decide_eq_false (by omega)
      have HLs := Aside0.mk (Least.one (z := z0) (xs := ys) lessI_wo (show 2 * i + 1 < n by omega) (by omega))
      have HP2 := HP
      have c2 := c0
      have hm3 := meth_less p v _ c2
      cases hl3 : lessI (el z0 ys (2 * i + 1)) (el z0 ys i) with
      | false =>
        have HL3 := Lib.hid hl3
        clear hl3
        go_wp2_with fail
        (with_reducible refine (show Calls Try.prog 134 #[v, .int .i64 (2 * (i : Int) + 1), .int .i64 (i : Int)] _ _ from q1 ▸ HP2.out.h.less (2 * i + 1) i (by omega) (by omega) false HL3.out).mono ?_); rintro e w4 ⟨rfl, hs4, c4⟩
        have HP4 := Aside0.mk (show DS w w4 p u v n i0 i b xs ys from ⟨hs4, HP.out.dn, HP.out.lo, HP.out.lt, HP.out.tl⟩)
        clear hs4 hm3
        go_wp2
        go_ret
        exact ⟨b, ys, by first | rfl | simp, HP4.out.h, HP4.out.tl, HP4.out.stop (HLs.out.stop lessI_wo HL3.out)⟩
      | true =>
        have HL3 := Lib.hid hl3
        clear hl3
        go_wp2_with fail
        (with_reducible refine (show Calls Try.prog 134 #[v, .int .i64 (2 * (i : Int) + 1), .int .i64 (i : Int)] _ _ from q1 ▸ HP2.out.h.less (2 * i + 1) i (by omega) (by omega) true HL3.out).mono ?_); rintro e w4 ⟨rfl, hs4, c4⟩
        have HP4 := Aside0.mk (show DS w w4 p u v n i0 i b xs ys from ⟨hs4, HP.out.dn, HP.out.lo, HP.out.lt, HP.out.tl⟩)
        clear hs4 hm3
        have hm4 := meth_swap p v _ c4
        go_wp2_with fail
        (with_reducible refine (show Calls Try.prog 135 #[v, .int .i64 (i : Int), .int .i64 (2 * (i : Int) + 1)] _ _ from q1 ▸ HP4.out.h.swap i (2 * i + 1) (by omega) (by omega) (by omega)).mono ?_); rintro e w5 ⟨rfl, hs5⟩
        have HP5 := Aside0.mk (HP4.out.step hn hs5 HLs.out HL3.out)
        clear hs5
        go_wp2
        go_roundw
        case rel => exact ⟨2 * i + 1, true, _, by first | rfl | (rw [q1]) | simp, by omega, HP5⟩
        case measure => simp [intOf]; omega
end Go.Proofs.Ytjgoddieamphpaa.Wh
namespace Go.Proofs.Ytjgoddieamphpaa.Wh
open Go.RowKit Go.Sort Go.Proofs.YtjgoddieamphpaaW.PrintWords Go.Proofs.YtjgoddieamphpaaW.PrintLast Heap Go.Proofs.Ytjgoddieamphpaa.Obj
set_option maxRecDepth 100000
set_option linter.unusedVariables false
theorem info_ptr : (Try.prog.info? 109).map (fun i => (i.zero, i.size, i.bytes)) = some (some (.pointer none), 1, 8) := by kernel_rfl
/-- The row cut short by its last. -/
theorem row_cut {w : World} {g n cap : Nat} {vs : List Value} (h : w.ownsRow 0 109 1 (.slice (some ⟨g, 0, none⟩) n cap) n vs) (m : Nat) (hm : m ≤ n) : w.ownsRow 0 109 1 (.slice (some ⟨g, 0, none⟩) m cap) m (vs.take m) := by
  obtain ⟨hl, ⟨e, _⟩ | ⟨g', cap', cur, e, h0, hb, q1, q2, q3, q4⟩⟩ := h
  · cases e
  · injection e with e1 e2 e3
    injection e1 with e1
    injection e1 with e1
    subst e1; subst e3
    refine ⟨by rw [List.length_take]; omega, .inr ⟨g, cap, cur, rfl, h0, hb, by omega, q2, q3, ?_⟩⟩
    rw [← q4, List.take_take]
    congr 1
    omega
theorem row_frmW {w w1 : World} {v : Value} {n : Nat} {vs : List Value} (h : w.ownsRow 0 109 1 v n vs) (hb : ∀ g, some g = v.ownBlock → w1.heap[g]? = w.heap[g]?) : w1.ownsRow 0 109 1 v n vs := by
  obtain ⟨hl, ⟨e, e0⟩ | ⟨g', cap', cur, e, h0, hb', q⟩⟩ := h
  · exact ⟨hl, .inl ⟨e, e0⟩⟩
  · subst e
    exact ⟨hl, .inr ⟨g', cap', cur, rfl, h0, (hb g' rfl).trans hb', q⟩⟩
theorem row_blk {w : World} {v : Value} {n : Nat} {vs : List Value} (h : w.ownsRow 0 109 1 v n vs) {g : Nat} (hg : some g = v.ownBlock) : ∃ cs, w.heap[g]? = some (.cells cs 109 (0, 0)) := by
  obtain ⟨hl, ⟨e, e0⟩ | ⟨g', cap', cur, e, h0, hb', q⟩⟩ := h
  · subst e; cases hg
  · subst e
    injection hg with hg
    subst hg
    exact ⟨_, hb'⟩
theorem el_take (xs : List It) (m k : Nat) (hk : k < m) : el z0 (xs.take m) k = el z0 xs k := by
  unfold el; rw [List.getD_eq_getElem?_getD, List.getD_eq_getElem?_getD, List.getElem?_take_of_lt hk]
theorem wpop_any {w : World} {p m : Nat} {u v : Value} {xs : List It} (h : WR w p u v xs) (hm : xs.length = m + 1) :
    Calls Try.prog 136 #[.pointer (some ⟨p, 0, none⟩)] w fun e w' => (∃ r, e = .returned r) ∧ ∃ v', WR w' p u v' (xs.take m) ∧ v'.ownBlock = v.ownBlock ∧ Frm (fun b => b = p) w w' := by
  obtain ⟨g, cap, cur, rfl, hg, hc, hr⟩ := h.open_ (by omega)
  have c0 := h.c0
  have f0 := blk_frozen h.hd 0
  have r0 : w.cell? ⟨g, m, none⟩ = some (ptr (el z0 xs m).1) := (blk_cell hg m).trans (hr m (by omega))
  have e1 : (Addr.add ⟨g, 0, none⟩ m) = ⟨g, m, none⟩ := by simp [Addr.add]; omega
  have e2 : ((m + 1 : Nat) : Int) - 1 = (m : Int) := by omega
  have hmb : m ≤ 10000 := by have := h.few; omega
  have H := Lib.hid h
  clear h hr hg
  rw [hm] at c0 hc ⊢
  simp only [ptr] at r0
  generalize hq : (el z0 xs m).1 = q at *
  clear hq
  go_enter Try.func136, Try.ntmps136
  go_wp2

  go_ret
  have hf : Frm (fun b => b = p) w (w.setCell ⟨p, 0, none⟩ (.slice (some ⟨g, 0, none⟩) m cap)) := (Frm.refl (fun b => b = p) w).setCell (p := ⟨p, 0, none⟩) (.inl rfl) _
  refine ⟨⟨_, rfl⟩, _, ⟨blk_put H.out.hd 0 _ rfl, ?_, fun k hk => ?_, ?_, ?_⟩, rfl, hf⟩
  · have h0 := H.out.row
    rw [hm] at h0
    have h1 := row_cut h0 m (by omega)
    rw [← List.map_take] at h1
    rw [List.length_take, Nat.min_eq_left (by omega)]
    refine row_frmW h1 (fun b hb => ?_)
    obtain ⟨cs, hcs⟩ := row_blk h1 hb
    exact Below.heap_setCell _ _ _ _ (blk_ne hcs H.out.hd (by decide))
  · rw [List.length_take] at hk
    rw [el_take xs m k (by omega)]
    exact blk_far (H.out.it k (by omega)) (blk_ne (H.out.it k (by omega)) H.out.hd (by decide)) _
  · rw [List.map_take]; exact H.out.bn.sublist (List.take_sublist _ _)
  · have := H.out.few; rw [List.length_take]; omega
/-- A row with one item more behind it. -/
theorem WR.pushed {w w3 : World} {p : Nat} {u v v' : Value} {xs : List It} {x : It} (h : WR w p u v xs) (hx : x.1 ∉ xs.map (·.1)) (hf : xs.length < 10000)
    (hd : w3.heap[p]? = some (.cells #[v', u] 108 (0, 0))) (hr : w3.ownsRow 0 109 1 v' (xs.length + 1) (xs.map (fun x => ptr x.1) ++ [ptr x.1])) (hq : w3.heap[x.1]? = some (.cells #[.string x.2.1, .int .i64 x.2.2, .int .i64 (xs.length : Nat)] 111 (0, 0)))
    (hF : ∀ k, k < xs.length → w3.heap[(el z0 xs k).1]? = w.heap[(el z0 xs k).1]?) : WR w3 p u v' (xs ++ [x]) := by
  refine ⟨hd, ?_, fun k hk => ?_, ?_, by simp; omega⟩
  · rw [List.length_append, List.map_append]; exact hr
  · rw [List.length_append] at hk
    have hk : k < xs.length + 1 := hk
    rw [el_app]
    by_cases e : k < xs.length
    · rw [if_pos e, hF k e]; exact h.it k e
    · have : k = xs.length := by omega
      subst this
      rw [if_neg e, if_pos rfl]; exact hq
  · rw [List.map_append]
    refine List.nodup_append.2 ⟨h.bn, by simp, fun a ha b hb => ?_⟩
    have hb : b = x.1 := by simpa using hb
    subst hb
    exact fun e => hx (e ▸ ha)
theorem grown_blk {w w3 : World} {o : Obj} {row : Option Nat} {b : Nat} {X : Obj} (h : (w.alloc o).grownBy w3 row) (hb : w.heap[b]? = some X) (hne : some b ≠ row) : w3.heap[b]? = some X := by
  have hlt := blk_lt hb
  rw [h.block b (by simp; omega) hne]
  exact (Below.heap_alloc _ _ _ hlt).trans hb
theorem row_ne {w : World} {v : Value} {n : Nat} {vs : List Value} {p t : Nat} {cs : Array Value} (h : w.ownsRow 0 109 1 v n vs) (hp : w.heap[p]? = some (.cells cs t (0, 0))) (ht : t ≠ 109) : some p ≠ v.ownBlock := fun e => by
  obtain ⟨cs', hb⟩ := row_blk h e
  exact blk_ne hp hb ht rfl
theorem row_slice {w : World} {v : Value} {n : Nat} {vs : List Value} (h : w.ownsRow 0 109 1 v n vs) : ∃ A c, v = .slice A n c := by
  obtain ⟨hl, ⟨e, e0⟩ | ⟨g', cap', cur, e, _⟩⟩ := h
  · exact ⟨none, 0, by rw [e, e0]⟩
  · exact ⟨_, _, e⟩
theorem wpush_any {w : World} {p q : Nat} {u v : Value} {xs : List It} {k : ByteArray} {t z : Int} (h : WR w p u v xs) (hq : w.heap[q]? = some (.cells #[.string k, .int .i64 t, .int .i64 z] 111 (0, 0))) (hn : q ∉ xs.map (·.1)) (hf : xs.length < 10000) :
    Calls Try.prog 137 #[.pointer (some ⟨p, 0, none⟩), .iface 109 (.pointer (some ⟨q, 0, none⟩))] w fun e w' => e = .returned (.tuple #[]) ∧ ∃ v', WR w' p u v' (xs ++ [(q, k, t)]) ∧ (∀ b, some b = v'.ownBlock → some b = v.ownBlock ∨ w.heap.size ≤ b) ∧ Frm (fun b => b = p ∨ b = q ∨ some b = v.ownBlock) w w' := by
  obtain ⟨A, c, rfl, hc⟩ := h.slice
  have c0 := h.c0
  have f0 := blk_frozen h.hd 0
  have f2 := blk_frozen hq 2
  have d2 : w.cell? ⟨q, 2, none⟩ = some (.int .i64 z) := (blk_cell hq 2).trans rfl
  have hqp : q ≠ p := blk_ne hq h.hd (by decide)
  obtain ⟨i0, hi, hz0, hz1, hz2⟩ := info_parts info_ptr
  have hlen := h.few
  have H := Lib.hid h
  have HQ := Lib.hid hq
  clear h hq
  have hta : ∀ w : World, (Instr.typeAssert (.iface 109 (.pointer (some ⟨q, 0, none⟩))) 20 109 false).run Try.prog w = .ok (.pointer (some ⟨q, 0, none⟩)) w := fun _ => by rfl
  go_enter Try.func137, Try.ntmps137
  go_upto_region 2 with (fail)
  obtain ⟨w2, hw2⟩ : ∃ w2, w2 = w.setCell ⟨q, 2, none⟩ (.int .i64 (xs.length : Nat)) := ⟨_, rfl⟩
  rw [← hw2]
  have hp2 : w2.heap[p]? = some (.cells #[.slice A xs.length c, u] 108 (0, 0)) := by rw [hw2]; exact blk_far H.out.hd (Ne.symm hqp) _
  have hq2 : w2.heap[q]? = some (.cells #[.string k, .int .i64 t, .int .i64 (xs.length : Nat)] 111 (0, 0)) := by rw [hw2]; exact blk_put HQ.out 2 _ rfl
  have hr2 : w2.ownsRow 0 109 1 (.slice A xs.length c) xs.length (xs.map fun x => ptr x.1) := by
    rw [hw2]
    refine row_frmW H.out.row (fun b hb => ?_)
    obtain ⟨cs, hcs⟩ := row_blk H.out.row hb
    exact Below.heap_setCell _ _ _ _ (blk_ne hcs HQ.out (by decide))
  have hi2 : ∀ j, j < xs.length → w2.heap[(el z0 xs j).1]? = w.heap[(el z0 xs j).1]? := fun j hj => by
    rw [hw2]
    refine Below.heap_setCell _ _ _ _ (fun e => hn ?_)
    have e' : (el z0 xs j).1 = q := e
    rw [← e']
    exact List.mem_map.2 ⟨_, el_mem xs j hj, rfl⟩
  have hs2 : w2.heap.size = w.heap.size := by rw [hw2]; simp [World.setCell]
  have hf2 : Frm (fun b => b = p ∨ b = q ∨ some b = (Value.slice A xs.length c).ownBlock) w w2 := by rw [hw2]; exact (Frm.refl (fun b => b = p ∨ b = q ∨ some b = (Value.slice A xs.length c).ownBlock) w).setCell (p := ⟨q, 2, none⟩) (.inl (.inr (.inl rfl))) _
  have c2 : w2.cell? ⟨p, 0, none⟩ = some (.slice A xs.length c) := (blk_cell hp2 0).trans rfl
  have HF2 := Lib.hid hf2
  have HR2 := Aside0.mk hr2
  have HI2 := Lib.hid hi2
  have HQ2 := Lib.hid hq2
  have HP2 := Lib.hid hp2
  have HS2 := Lib.hid hs2
  clear hw2 hf2 hr2 hi2 hq2 hs2 hp2 c0 f0 d2 f2
  go_wp2_with (first | (at_builtin; refine wpList_append_own_at _ rfl _ _ 106 rfl 0 109 i0 (.pointer none) 1 8 Try.underlying106 hi hz0 hz1 hz2 rfl (by decide) _ _ _ rfl (HR2.out.alloc _) ⟨w2.heap.size, 0, none⟩ 1 1 [.pointer (some ⟨q, 0, none⟩)] rfl rfl (cell_one_new _ _ _) (by intro u hu; obtain rfl := List.mem_singleton.1 hu; rfl) (by unfold maxLen; omega) (by omega) (Nat.zero_le _) ?_; intro v' w3 hown' hgrow hnil hloc; obtain ⟨A4, c4, e4⟩ := row_slice hown'; subst e4; have HP3 := Lib.hid (grown_blk hgrow HP2.out (row_ne HR2.out HP2.out (by decide))); have c3 := (blk_cell HP3.out 0).trans rfl; have f3 := blk_frozen HP3.out 0; have HO := Aside0.mk hown'; have HG := Aside0.mk hgrow; have HL := Aside0.mk hloc; clear hown' hgrow hnil hloc))
  go_end0
  have hO := HO.out
  have hG := HG.out
  have hpv : some p ≠ (Value.slice A4 (xs.length + 1) c4).ownBlock := row_ne hO HP3.out (by decide)
  refine ⟨rfl, _, H.out.pushed hn hf (blk_put HP3.out 0 _ rfl) (row_frmW (by simpa [ptr] using hO) (fun b hb => Below.heap_setCell _ _ _ _ (fun e => hpv (by rw [← hb]; exact congrArg some e.symm)))) ?_ ?_, ?_, ?_⟩
  · exact blk_far (grown_blk hG HQ2.out (row_ne HR2.out HQ2.out (by decide))) hqp _
  · intro j hj
    have h1 := HI2.out j hj
    have h2 := H.out.it j hj
    rw [h2] at h1
    rw [h2]
    exact blk_far (grown_blk hG h1 (row_ne HR2.out h1 (by decide))) (blk_ne h2 H.out.hd (by decide)) _
  · intro b hb
    rcases HL.out with e | e
    · rw [e] at hb; exact .inl hb
    · rw [e] at hb
      injection hb with hb
      refine .inr ?_
      subst hb
      simp [HS2.out]
  · have hg : Frm (fun j => some j = (Value.slice A xs.length c).ownBlock) (w2.alloc (.cells #[.pointer (some ⟨q, 0, none⟩)] 109)) w3 := ⟨hG.os, hG.tape, hG.output, hG.size, fun j hj hn => hG.block j hj hn⟩
    exact (((HF2.out.alloc _).then hg (fun i _ hi => .inr (.inr hi))).setCell (p := ⟨p, 0, none⟩) (.inl (.inl rfl)) _)
end Go.Proofs.Ytjgoddieamphpaa.Wh
namespace Go.Proofs.Ytjgoddieamphpaa.Wh
open Go.RowKit Go.Sort Go.Proofs.YtjgoddieamphpaaW.PrintWords Go.Proofs.YtjgoddieamphpaaW.PrintLast Heap Go.Proofs.Ytjgoddieamphpaa.Obj
set_option maxRecDepth 100000
set_option linter.unusedVariables false
theorem wlen1 {w : World} {p m : Nat} {u v : Value} {xs : List It} (h : WR w p u v xs) (hm : xs.length = m + 1) : Calls Try.prog 133 #[v] w fun e w' => e = .returned (.int .i64 ((m : Int) + 1)) ∧ w = w' := by
  refine (wlen_any h).mono ?_
  rintro e w' ⟨a, b⟩
  exact ⟨by rw [a, hm]; simp, b⟩
theorem hpush_any {w : World} {p q : Nat} {u v : Value} {xs : List It} {k : ByteArray} {t z : Int} (h : WR w p u v xs) (hok : Ok z0 lessI xs.length xs) (hq : w.heap[q]? = some (.cells #[.string k, .int .i64 t, .int .i64 z] 111 (0, 0))) (hn : q ∉ xs.map (·.1)) (hf : xs.length < 10000) :
    Calls Try.prog 71 #[.iface 113 (.pointer (some ⟨p, 0, none⟩)), .iface 109 (.pointer (some ⟨q, 0, none⟩))] w fun e w' => e = .returned (.tuple #[]) ∧ ∃ v' ys, WR w' p u v' ys ∧ ys.Perm (xs ++ [(q, k, t)]) ∧ Ok z0 lessI ys.length ys ∧ (∀ b, some b = v'.ownBlock → some b = v.ownBlock ∨ w.heap.size ≤ b) ∧ Frm (fun b => b = p ∨ b = q ∨ FW v xs b) w w' := by
  have H := Aside0.mk h
  have HO := Lib.hid hok
  have HQ := Lib.hid hq
  have HN := Lib.hid hn
  have hm := meth_push p w
  have hfew := h.few
  clear h hok hq hn
  go_enter Try.func71, Try.ntmps71
  go_wp2_with fail
  (with_reducible refine (wpush_any H.out HQ.out HN.out hf).mono ?_); rintro e w2 ⟨rfl, v2, hr2, ho2, hf2⟩
  have hlen : (xs ++ [(q, k, t)]).length = xs.length + 1 := by simp
  have c2 := hr2.c0
  have hm2 := meth_len p v2 w2 c2
  have HR2 := Aside0.mk hr2
  have HO2 := Lib.hid ho2
  have HF2 := Lib.hid hf2
  have HL := Lib.hid hlen
  clear hr2 ho2 hf2 hm hlen
  go_wp2_with fail
  (with_reducible refine (wlen1 HR2.out HL.out).mono ?_); rintro e w3 ⟨rfl, rfl⟩
  clear hm2
  go_wp2_with fail
  (with_reducible refine (up_any HR2.out (n := xs.length + 1) (by rw [HL.out]; omega) xs.length (by omega) (HO.out.push _)).mono ?_); rintro e w4 ⟨rfl, ys, hs, hk, _⟩
  have HS := Aside0.mk hs
  have HK := Lib.hid hk
  clear hs hk
  go_wp2
  go_end0
  refine ⟨rfl, v2, ys, HS.out.r, HS.out.pm, ?_, HO2.out, ?_⟩
  · rw [HS.out.len, HL.out]; exact HK.out
  · refine (HF2.out.mono (fun b _ hb => ?_)).then HS.out.f (fun b hb hF => ?_)
    · rcases hb with e | e | e
      · exact .inl e
      · exact .inr (.inl e)
      · exact .inr (.inr (.inl e))
    · rcases hF with e | e
      · rcases HO2.out b e with e | e
        · exact .inr (.inr (.inl e))
        · omega
      · rw [List.map_append] at e
        rcases List.mem_append.1 e with e | e
        · exact .inr (.inr (.inr e))
        · exact .inr (.inl (by simpa using e))
theorem take_last {xs : List It} {m : Nat} (hm : xs.length = m + 1) : (el z0 xs m :: xs.take m).Perm xs := by
  have h1 : xs = xs.take m ++ [el z0 xs m] := by
    apply List.ext_getElem?
    intro k
    by_cases hk : k < m
    · rw [List.getElem?_append_left (by simp; omega), List.getElem?_take_of_lt hk]
    · by_cases e : k = m
      · subst e
        rw [List.getElem?_append_right (by rw [List.length_take]; omega), el_at (z := z0) xs k (by omega)]
        simp [Nat.min_eq_left (show k ≤ xs.length by omega)]
      · rw [List.getElem?_eq_none (by omega), List.getElem?_eq_none (by simp; omega)]
  have h2 : (el z0 xs m :: xs.take m).Perm (xs.take m ++ [el z0 xs m]) := (List.perm_append_singleton _ _).symm
  rw [← h1] at h2
  exact h2
/-- What a removal leaves. -/
def Left (w w' : World) (p i : Nat) (u v : Value) (xs : List It) : Prop := ∃ v' ys, WR w' p u v' ys ∧ (el z0 xs i :: ys).Perm xs ∧ Ok z0 lessI ys.length ys ∧ v'.ownBlock = v.ownBlock ∧ Frm (fun b => b = p ∨ FW v xs b) w w'
theorem left_of {w w2 w' : World} {p i m : Nat} {u v v' : Value} {xs zs : List It} (hm : xs.length = m + 1) (hs : HS w w2 p u v xs zs) (hok : Ok z0 lessI m zs) (ht : el z0 zs m = el z0 xs i) (hr : WR w' p u v' (zs.take m)) (ho : v'.ownBlock = v.ownBlock) (hf : Frm (fun b => b = p) w2 w') : Left w w' p i u v xs := by
  have hz : zs.length = m + 1 := by rw [hs.len, hm]
  refine ⟨v', zs.take m, hr, ?_, ?_, ho, ?_⟩
  · rw [← ht]; exact (take_last hz).trans hs.pm
  · rw [List.length_take, Nat.min_eq_left (by omega)]; exact hok.take
  · exact (hs.f.mono (fun b _ hb => .inr hb)).then hf (fun b _ hb => .inl hb)
set_option maxHeartbeats 2000000 in
theorem hremove_any {w : World} {p i m : Nat} {u v : Value} {xs : List It} (h : WR w p u v xs) (hok : Ok z0 lessI xs.length xs) (hm : xs.length = m + 1) (hi : i < xs.length) :
    Calls Try.prog 73 #[.iface 113 (.pointer (some ⟨p, 0, none⟩)), .int .i64 (i : Int)] w fun e w' => (∃ r, e = .returned r) ∧ Left w w' p i u v xs := by
  have hfew := h.few
  have c0 := h.c0
  have hm1 := meth_len p v w c0
  have H := Aside0.mk h
  have HO := Lib.hid hok
  have HM := Lib.hid hm
  have hmb : m < 10000 := by omega
  rw [hm] at hi
  clear h hok hm hfew
  by_cases him : i = m
  · subst him
    have e1 : ((i : Int) != (i : Int)) = false := by simp
    have hm3 := meth_pop p w
    go_enter Try.func73, Try.ntmps73
    go_wp2_with fail
    (with_reducible refine (wlen1 H.out HM.out).mono ?_); rintro e w3 ⟨rfl, rfl⟩
    go_wp2_with fail
    (with_reducible refine (wpop_any H.out HM.out).mono ?_); rintro e w5 ⟨⟨r, rfl⟩, v5, hr5, ho5, hf5⟩
    have HR5 := Aside0.mk hr5
    have HO5 := Lib.hid ho5
    have HF5 := Lib.hid hf5
    clear hr5 ho5 hf5
    go_wp2
    go_ret
    exact ⟨⟨_, rfl⟩, left_of HM.out (⟨H.out, List.Perm.refl _, Frm.refl _ w⟩ : HS w w p u v xs xs) (HO.out.less (by have := HM.out; omega)) rfl HR5.out HO5.out HF5.out⟩
  · have e1 : ((m : Int) != (i : Int)) = true := by simp; omega
    have hm2 := meth_swap p v w c0
    have HS0 := Aside0.mk (show HS w w p u v xs xs from ⟨H.out, List.Perm.refl _, Frm.refl _ w⟩)
    go_enter Try.func73, Try.ntmps73
    go_wp2_with fail
    (with_reducible refine (wlen1 H.out HM.out).mono ?_); rintro e w3 ⟨rfl, rfl⟩
    go_wp2_with fail
    (with_reducible refine (HS0.out.swap i m (by have := HM.out; omega) (by have := HM.out; omega) him).mono ?_); rintro e w3 ⟨rfl, hs3⟩
    have HS3 := Aside0.mk hs3
    have HD3 := Lib.hid (Ok.remove lessI_wo (n := m) (by rw [← HM.out]; exact HO.out) (by have := HM.out; omega) (show i < m by omega))
    clear hs3 hm1 hm2
    go_wp2_with fail
    (with_reducible refine (down_any HS3.out.r (n := m) (by rw [HS3.out.len, HM.out]; omega) i (by omega) HD3.out).mono ?_); rintro e w4 ⟨b, ys, rfl, hs4, ht4, hb1, hb2⟩
    have HS4 := Aside0.mk (show HS w w4 p u v xs ys from ⟨hs4.r, hs4.pm.trans HS3.out.pm, HS3.out.f.trans (hs4.f.mono fun b _ hb => FW.perm HS3.out.pm b hb)⟩)
    have ht : el z0 ys m = el z0 xs i := by rw [ht4 m (Nat.le_refl _), el_swap xs i m m (by have := HM.out; omega) (by have := HM.out; omega), if_pos rfl]
    have HT := Lib.hid ht
    cases b with
    | true =>
      have HK := Lib.hid (hb1 rfl)
      clear hs4 ht4 hb1 hb2 ht
      have hm3 := meth_pop p w4
      go_wp2_with fail
      (with_reducible refine (wpop_any HS4.out.r (by rw [HS4.out.len, HM.out])).mono ?_); rintro e w5 ⟨⟨r, rfl⟩, v5, hr5, ho5, hf5⟩
      have HR5 := Aside0.mk hr5
      have HO5 := Lib.hid ho5
      have HF5 := Lib.hid hf5
      clear hr5 ho5 hf5
      go_wp2
      go_ret
      exact ⟨⟨_, rfl⟩, left_of HM.out HS4.out HK.out HT.out HR5.out HO5.out HF5.out⟩
    | false =>
      have HU := Lib.hid (hb2 rfl)
      clear hs4 ht4 hb1 hb2 ht
      go_wp2_with fail
      (with_reducible refine (up_any HS4.out.r (n := m) (by rw [HS4.out.len, HM.out]; omega) i (by omega) HU.out).mono ?_); rintro e w6 ⟨rfl, zs, hs6, hk6, ht6⟩
      have HS6 := Aside0.mk (show HS w w6 p u v xs zs from ⟨hs6.r, hs6.pm.trans HS4.out.pm, HS4.out.f.trans (hs6.f.mono fun b _ hb => FW.perm HS4.out.pm b hb)⟩)
      have HK6 := Lib.hid hk6
      have HT6 := Lib.hid ((ht6 m (Nat.le_refl _)).trans HT.out)
      clear hs6 hk6 ht6
      have hm3 := meth_pop p w6
      go_wp2_with fail
      (with_reducible refine (wpop_any HS6.out.r (by rw [HS6.out.len, HM.out])).mono ?_); rintro e w5 ⟨⟨r, rfl⟩, v5, hr5, ho5, hf5⟩
      have HR5 := Aside0.mk hr5
      have HO5 := Lib.hid ho5
      have HF5 := Lib.hid hf5
      clear hr5 ho5 hf5
      go_wp2
      go_ret
      exact ⟨⟨_, rfl⟩, left_of HM.out HS6.out HK6.out HT6.out HR5.out HO5.out HF5.out⟩
end Go.Proofs.Ytjgoddieamphpaa.Wh
namespace Go.Proofs.Ytjgoddieamphpaa.Wh
open Go.RowKit Go.Sort Go.Proofs.YtjgoddieamphpaaW.PrintWords Go.Proofs.YtjgoddieamphpaaW.PrintLast Heap Go.Proofs.Ytjgoddieamphpaa.Obj Go.Maps Go.WideMaps
set_option maxRecDepth 100000
set_option linter.unusedVariables false
/-- How a pointer to an item reads: its block. -/
def ptrR : Value → Option (DataW Unit × List MemPlace)
  | .pointer none => some (.nil, [])
  | .pointer (some a) => if a.off = 0 ∧ a.spot = none then some (.lit (.int .i64 (a.block : Int)), []) else none
  | _ => none
theorem ptrR_hit {v : Value} {n : Nat} {ps : List MemPlace} (h : ptrR v = some (.lit (.int .i64 (n : Int)), ps)) : v = ptr n := by
  unfold ptrR at h
  split at h
  · simp at h
  · rename_i a
    split at h
    · rename_i hc
      obtain ⟨b, o, s⟩ := a
      simp only [Option.some.injEq, Prod.mk.injEq, DataW.lit.injEq, Lit.int.injEq, true_and] at h
      obtain ⟨h1, h2⟩ := hc
      have h1 : o = 0 := h1
      have h2 : s = none := h2
      have h3 : b = n := by have := h.1; omega
      subst h1; subst h2; subst h3; rfl
    · cases h
  · cases h
theorem ptrR_miss {v : Value} {ps : List MemPlace} (h : ptrR v = some (.nil, ps)) : v = .pointer none := by
  unfold ptrR at h
  split at h
  · rfl
  · split at h <;> simp at h
  · cases h
theorem ptrR_mk (n : Nat) : ptrR (ptr n) = some (.lit (.int .i64 (n : Int)), []) := by simp [ptrR, ptr]
def skey (k : ByteArray) : Lit := .string k.data.toList
theorem skey_inj {a b : ByteArray} (h : skey a = skey b) : a = b := by
  unfold skey at h
  injection h with h
  obtain ⟨⟨x⟩⟩ := a
  obtain ⟨⟨y⟩⟩ := b
  have h : x = y := h
  rw [h]
/-- Block mb is a map: of each item's key to its block. -/
structure MapOf (w : World) (mb : Nat) (xs : List It) (D : DataW Unit) : Prop where
  own : w.ownsMap Try.prog 9 ptrR mb xs.length D
  sz : Maps.size D = xs.length
  hit : ∀ x ∈ xs, Maps.has D (skey x.2.1) = true ∧ D.atKey (skey x.2.1) .nil = .lit (.int .i64 (x.1 : Int))
  miss : ∀ k : ByteArray, (∀ x ∈ xs, x.2.1 ≠ k) → Maps.has D (skey k) = false
theorem law9 : Keyed Try.prog 9 := string_keyed Try.underlying9
theorem zeroP (w : World) : (zeroValue 109).run Try.prog w = .ok (.pointer none) w := by kernel_rfl
theorem own_size {w : World} {mb n : Nat} {D : DataW Unit} (h : w.ownsMap Try.prog 9 ptrR mb n D) : w.ownsMap Try.prog 9 ptrR mb (Maps.size D) D := by
  obtain ⟨es, clock, hb, F, hs, rfl⟩ := h
  exact ⟨es, clock, hb, F, by simp [Maps.size, length_sorted], rfl⟩
theorem MapOf.frm {w w1 : World} {mb : Nat} {xs : List It} {D : DataW Unit} (h : MapOf w mb xs D) (hb : w1.heap[mb]? = w.heap[mb]?) : MapOf w1 mb xs D := by
  refine ⟨?_, h.sz, h.hit, h.miss⟩
  obtain ⟨es, clock, hb', r⟩ := h.own
  exact ⟨es, clock, hb.trans hb', r⟩
theorem MapOf.blk {w : World} {mb : Nat} {xs : List It} {D : DataW Unit} (h : MapOf w mb xs D) : ∃ es c, w.heap[mb]? = some (.map es c) := by
  obtain ⟨es, clock, hb', r⟩ := h.own
  exact ⟨es, clock, hb'⟩
theorem MapOf.perm {w : World} {mb : Nat} {xs ys : List It} {D : DataW Unit} (h : MapOf w mb xs D) (hp : ys.Perm xs) : MapOf w mb ys D :=
  ⟨by rw [hp.length_eq]; exact h.own, by rw [hp.length_eq]; exact h.sz, fun x hx => h.hit x (hp.mem_iff.1 hx), fun k hk => h.miss k fun x hx => hk x (hp.mem_iff.2 hx)⟩
theorem MapOf.made (w : World) : MapOf (w.alloc (.map #[] 0)) w.heap.size [] (.map []) := by
  exact ⟨World.ownsMap_made w _ _ _, rfl, (fun x hx => by cases hx), (fun k _ => rfl)⟩
theorem MapOf.put {w w1 : World} {mb : Nat} {xs : List It} {D : DataW Unit} (h : MapOf w mb xs D) (x : It) (hx : ∀ y ∈ xs, y.2.1 ≠ x.2.1) (h1 : w1.ownsMap Try.prog 9 ptrR mb (xs.length + 1) (D.put (skey x.2.1) (.lit (.int .i64 (x.1 : Int))))) : ∃ D', MapOf w1 mb (xs ++ [x]) D' := by
  have hk : WideAt.IsKeyLit (skey x.2.1) := trivial
  have ht : Tidy D := h.own.tidy law9
  refine ⟨D.put (skey x.2.1) (.lit (.int .i64 (x.1 : Int))), ?_, ?_, ?_, ?_⟩
  · rw [List.length_append]; exact h1
  · rw [size_put ht, h.miss _ hx, List.length_append, if_neg (by decide), h.sz]; rfl
  · intro y hy
    rcases List.mem_append.1 hy with hy | hy
    · have hne : skey y.2.1 ≠ skey x.2.1 := fun e => hx y hy (skey_inj e)
      rw [has_put_other hne, atKey_put_other hne]
      exact h.hit y hy
    · obtain rfl := List.mem_singleton.1 hy
      exact ⟨has_put_same ht.isMap hk _, atKey_put_same ht.isMap hk _ _⟩
  · intro k hk2
    have hne : skey k ≠ skey x.2.1 := fun e => hk2 x (by simp) (skey_inj e).symm
    rw [has_put_other hne]
    exact h.miss k fun y hy => hk2 y (by simp [hy])
theorem MapOf.del {w w1 : World} {mb : Nat} {xs ys : List It} {D : DataW Unit} (h : MapOf w mb xs D) (x : It) (hp : (x :: ys).Perm xs) (hn : (xs.map (·.2.1)).Nodup) (h1 : w1.ownsMap Try.prog 9 ptrR mb xs.length (D.del (skey x.2.1))) : MapOf w1 mb ys (D.del (skey x.2.1)) := by
  have ht : Tidy D := h.own.tidy law9
  have hx : x ∈ xs := hp.mem_iff.1 (by simp)
  have hn2 : ((x :: ys).map (·.2.1)).Nodup := (hp.map _).nodup_iff.2 hn
  rw [List.map_cons, List.nodup_cons] at hn2
  have hz : Maps.size (D.del (skey x.2.1)) = ys.length := by
    have := size_del (k := skey x.2.1) ht
    rw [(h.hit x hx).1, if_pos rfl, h.sz, ← hp.length_eq] at this
    simpa using this
  have hne : ∀ y ∈ ys, skey y.2.1 ≠ skey x.2.1 := fun y hy e => hn2.1 (by rw [← skey_inj e]; exact List.mem_map.2 ⟨y, hy, rfl⟩)
  refine ⟨by rw [← hz]; exact own_size h1, hz, fun y hy => ?_, fun k hk => ?_⟩
  · rw [has_del_other (hne y hy), atKey_del_other (hne y hy)]
    exact h.hit y (hp.mem_iff.1 (by simp [hy]))
  · by_cases e : x.2.1 = k
    · rw [← e]; exact has_del_same
    · have hne2 : skey k ≠ skey x.2.1 := fun e2 => e (skey_inj e2).symm
      rw [has_del_other hne2]
      refine h.miss k fun y hy => ?_
      rcases List.mem_cons.1 (hp.mem_iff.2 hy) with e3 | e3
      · rw [e3]; exact e
      · exact hk y e3
/-! At the operation. -/
section
variable (w : World) {ops : Array Oper} {rest : List Oper} {o : Oper} {a : Act} {Q : Exit → Act → World → Prop}
theorem wp_look_hit (hg : o.guard = none) (m x : Operand) (hop : o.op = Op.lookup 104 m x true) (mb : Nat) (xs : List It) (D : DataW Unit) (hm : a.eval m = .map (some mb)) (M : MapOf w mb xs D) (key : ByteArray) (hx : a.eval x = .string key) (hs : key.size ≤ maxLen) (y : It) (hy : y ∈ xs) (hk : y.2.1 = key)
    (hK : wpList Try.prog ops Q rest (a.put o.dst (.tuple #[.pointer (some ⟨y.1, 0, none⟩), .bool true])) w) : wpList Try.prog ops Q (o :: rest) a w := by
  subst hk
  obtain ⟨h1, h2⟩ := M.hit y hy
  refine wpList_lookup_own_ok w hg m x 104 hop 9 109 law9 Try.underlying104 ptrR (zeroP w) .nil [] rfl mb xs.length D hm M.own _ (skey y.2.1) hx (keyOf_string_mk Try.underlying9 hs) (fun v ps hv => ?_)
  rw [h2] at hv
  rw [h1, ptrR_hit hv]
  exact hK
theorem wp_look_miss (hg : o.guard = none) (m x : Operand) (hop : o.op = Op.lookup 104 m x true) (mb : Nat) (xs : List It) (D : DataW Unit) (hm : a.eval m = .map (some mb)) (M : MapOf w mb xs D) (key : ByteArray) (hx : a.eval x = .string key) (hs : key.size ≤ maxLen) (hy : ∀ y ∈ xs, y.2.1 ≠ key)
    (hK : wpList Try.prog ops Q rest (a.put o.dst (.tuple #[.pointer none, .bool false])) w) : wpList Try.prog ops Q (o :: rest) a w := by
  have h1 := M.miss key hy
  refine wpList_lookup_own_ok w hg m x 104 hop 9 109 law9 Try.underlying104 ptrR (zeroP w) .nil [] rfl mb xs.length D hm M.own _ (skey key) hx (keyOf_string_mk Try.underlying9 hs) (fun v ps hv => ?_)
  rw [atKey_of_not_has h1] at hv
  rw [h1, ptrR_miss hv]
  exact hK
theorem wp_store (hg : o.guard = none) (m x v : Operand) (hop : o.op = Op.mapUpdate 104 m x v) (mb : Nat) (xs : List It) (D : DataW Unit) (hm : a.eval m = .map (some mb)) (M : MapOf w mb xs D) (hn : xs.length < maxLen) (y : It) (hx : a.eval x = .string y.2.1) (hv : a.eval v = .pointer (some ⟨y.1, 0, none⟩)) (hs : y.2.1.size ≤ maxLen) (hy : ∀ z ∈ xs, z.2.1 ≠ y.2.1)
    (hK : ∀ w' D', MapOf w' mb (xs ++ [y]) D' → w.grownBy w' (some mb) → wpList Try.prog ops Q rest (a.put o.dst undef) w') : wpList Try.prog ops Q (o :: rest) a w := by
  refine wpList_mapUpdate_own w hg m x v 104 hop 9 109 law9 Try.underlying104 ptrR mb xs.length D hm M.own hn _ _ (skey y.2.1) hx hv (keyOf_string_mk Try.underlying9 hs) _ [] (ptrR_mk y.1) (fun w' h1 h2 => ?_)
  obtain ⟨D', hD⟩ := M.put y hy h1
  exact hK w' D' hD h2
theorem wp_delete (hg : o.guard = none) (m x : Operand) (hop : o.op = Op.call { callee := Callee.builtin Builtin.delete, args := #[m, x], argTypes := #[104, 9] }) (mb : Nat) (xs ys : List It) (D : DataW Unit) (hm : a.eval m = .map (some mb)) (M : MapOf w mb xs D) (y : It) (hx : a.eval x = .string y.2.1) (hs : y.2.1.size ≤ maxLen) (hp : (y :: ys).Perm xs) (hn : (xs.map (·.2.1)).Nodup)
    (hK : ∀ w' D', MapOf w' mb ys D' → w.grownBy w' (some mb) → wpList Try.prog ops Q rest (a.put o.dst (.tuple #[])) w') : wpList Try.prog ops Q (o :: rest) a w := by
  refine wpList_delete_own w hg m x 104 9 hop 109 law9 Try.underlying104 ptrR mb xs.length D hm M.own _ (skey y.2.1) hx (keyOf_string_mk Try.underlying9 hs) (fun w' h1 h2 => ?_)
  exact hK w' _ (M.del y hp hn h1) h2.grown
end
end Go.Proofs.Ytjgoddieamphpaa.Wh
namespace Go.Proofs.Ytjgoddieamphpaa.Wh
open Go.RowKit Go.Sort Go.Proofs.YtjgoddieamphpaaW.PrintWords Go.Proofs.YtjgoddieamphpaaW.PrintLast Heap Go.Proofs.Ytjgoddieamphpaa.Obj Go.Maps Go.WideMaps
set_option maxRecDepth 100000
set_option linter.unusedVariables false
/-- A wheel in memory. -/
structure WS (w : World) (p mb : Nat) (v : Value) (xs : List It) (D : DataW Unit) : Prop where
  r : WR w p (.map (some mb)) v xs
  m : MapOf w mb xs D
  ok : Ok z0 lessI xs.length xs
  kn : (xs.map (·.2.1)).Nodup
  ks : ∀ x ∈ xs, x.2.1.size ≤ 1000
/-- What a wheel owns. -/
def FO (p mb : Nat) (v : Value) (xs : List It) (b : Nat) : Prop := b = p ∨ b = mb ∨ FW v xs b
section
variable {w w1 : World} {p mb : Nat} {v : Value} {xs : List It} {D : DataW Unit}
theorem WS.drewN (h : WS w p mb v xs D) (n : Nat) : WS (w.drewN n) p mb v xs D := ⟨h.r.drewN n, h.m.frm rfl, h.ok, h.kn, h.ks⟩
theorem WS.pm (h : WS w p mb v xs D) : p ≠ mb := by
  obtain ⟨es, c, hb⟩ := h.m.blk
  rintro rfl
  rw [h.r.hd] at hb; cases hb
theorem WS.own_lt (h : WS w p mb v xs D) (b : Nat) (hb : FO p mb v xs b) : b < w.heap.size := by
  rcases hb with rfl | rfl | e | e
  · exact blk_lt h.r.hd
  · obtain ⟨es, c, hb⟩ := h.m.blk; exact blk_lt hb
  · obtain ⟨cs, hb⟩ := row_blk h.r.row e; exact blk_lt hb
  · obtain ⟨x, hx, rfl⟩ := List.mem_map.1 e
    obtain ⟨i, hi, he⟩ := List.mem_iff_getElem.1 hx
    have h1 := h.r.it i hi
    have h2 := el_at (z := z0) xs i hi
    rw [List.getElem?_eq_getElem hi] at h2
    injection h2 with h2
    rw [← h2, he] at h1
    exact blk_lt h1
theorem WR.frm {u : Value} (h : WR w p u v xs) {F : Nat → Prop} (k : Frm F w w1) (hn : ∀ b, (b = p ∨ FW v xs b) → ¬ F b) : WR w1 p u v xs := by
  refine ⟨k.blk h.hd (hn _ (.inl rfl)), row_frmW h.row (fun b hb => ?_), fun i hi => k.blk (h.it i hi) (hn _ (.inr (.inr (List.mem_map.2 ⟨_, el_mem xs i hi, rfl⟩)))), h.bn, h.few⟩
  obtain ⟨cs, hc⟩ := row_blk h.row hb
  exact k.block b (blk_lt hc) (hn _ (.inr (.inl hb)))
theorem WS.frm (h : WS w p mb v xs D) {F : Nat → Prop} (k : Frm F w w1) (hn : ∀ b, FO p mb v xs b → ¬ F b) : WS w1 p mb v xs D := by
  refine ⟨h.r.frm k (fun b hb => hn b (hb.imp id .inr)), ?_, h.ok, h.kn, h.ks⟩
  obtain ⟨es, c, hb⟩ := h.m.blk
  exact h.m.frm (k.block mb (blk_lt hb) (hn _ (.inr (.inl rfl))))
theorem whlen_any (h : WS w p mb v xs D) : Calls Try.prog 38 #[.pointer (some ⟨p, 0, none⟩)] w fun e w' => e = .returned (.int .i64 (xs.length : Nat)) ∧ w = w' := by
  obtain ⟨A, c, rfl, hc⟩ := h.r.slice
  have c0 := h.r.c0
  clear h
  go_enter Try.func38, Try.ntmps38
  go_wp2
  go_ret
  exact ⟨rfl, rfl⟩
theorem whlen_nil (w : World) : Calls Try.prog 38 #[.pointer none] w fun e w' => e = .returned (.int .i64 0) ∧ w = w' := by
  go_enter Try.func38, Try.ntmps38
  go_wp2
  go_ret
  exact ⟨rfl, rfl⟩
theorem what_hit (h : WS w p mb v xs D) (y : It) (hy : y ∈ xs) : Calls Try.prog 36 #[.pointer (some ⟨p, 0, none⟩), .string y.2.1] w fun e w' => e = .returned (.tuple #[.int .i64 y.2.2, .bool true]) ∧ w = w' := by
  obtain ⟨i, hi, he⟩ := List.mem_iff_getElem.1 hy
  have h2 := el_at (z := z0) xs i hi
  rw [List.getElem?_eq_getElem hi, he] at h2
  injection h2 with h2
  have a1 := h.r.k1 i hi
  rw [← h2] at a1
  have c1 := h.r.c1
  have HM := Aside0.mk h.m
  have HY := Lib.hid hy
  have hs := Lib.hid (show y.2.1.size ≤ maxLen by have := h.ks y hy; unfold maxLen; omega)
  clear h h2 he hi hy
  go_enter Try.func36, Try.ntmps36
  go_wp2_with (first | (at_lookup; refine wp_look_hit _ rfl _ _ rfl mb xs D rfl HM.out _ rfl hs.out y HY.out rfl ?_))
  go_wp2
  go_ret2
  exact ⟨rfl, rfl⟩
theorem what_miss (h : WS w p mb v xs D) (k : ByteArray) (hs : k.size ≤ 1000) (hy : ∀ y ∈ xs, y.2.1 ≠ k) : Calls Try.prog 36 #[.pointer (some ⟨p, 0, none⟩), .string k] w fun e w' => e = .returned (.tuple #[.int .i64 0, .bool false]) ∧ w = w' := by
  have c1 := h.r.c1
  have HM := Aside0.mk h.m
  have HY := Lib.hid hy
  have hs := Lib.hid (show k.size ≤ maxLen by unfold maxLen; omega)
  clear h hy
  go_enter Try.func36, Try.ntmps36
  go_wp2_with (first | (at_lookup; refine wp_look_miss _ rfl _ _ rfl mb xs D rfl HM.out _ rfl hs.out HY.out ?_))
  go_wp2
  go_ret2
  exact ⟨rfl, rfl⟩
theorem what_nil (k : ByteArray) (w : World) : Calls Try.prog 36 #[.pointer none, .string k] w fun e w' => e = .returned (.tuple #[.int .i64 0, .bool false]) ∧ w = w' := by
  go_enter Try.func36, Try.ntmps36
  go_wp2
  go_ret2
  exact ⟨rfl, rfl⟩
end
end Go.Proofs.Ytjgoddieamphpaa.Wh
namespace Go.Proofs.Ytjgoddieamphpaa.Wh
open Go.RowKit Go.Sort Go.Proofs.YtjgoddieamphpaaW.PrintWords Go.Proofs.YtjgoddieamphpaaW.PrintLast Heap Go.Proofs.Ytjgoddieamphpaa.Obj Go.Maps Go.WideMaps
set_option maxRecDepth 100000
set_option linter.unusedVariables false
section
variable {w w1 : World} {p mb : Nat} {v : Value} {xs : List It} {D : DataW Unit}
theorem FW.blk {u : Value} (h : WR w p u v xs) {b : Nat} (hb : FW v xs b) : ∃ cs t, w.heap[b]? = some (.cells cs t (0, 0)) ∧ (t = 109 ∨ t = 111) := by
  rcases hb with e | e
  · obtain ⟨cs, hb⟩ := row_blk h.row e; exact ⟨cs, _, hb, .inl rfl⟩
  · obtain ⟨x, hx, rfl⟩ := List.mem_map.1 e
    obtain ⟨i, hi, he⟩ := List.mem_iff_getElem.1 hx
    have h1 := h.it i hi
    have h2 := el_at (z := z0) xs i hi
    rw [List.getElem?_eq_getElem hi] at h2
    injection h2 with h2
    rw [← h2, he] at h1
    exact ⟨_, _, h1, .inr rfl⟩
theorem map_far {u : Value} (h : WR w p u v xs) (hm : ∃ es c, w.heap[mb]? = some (.map es c)) : ¬ (mb = p ∨ FW v xs mb) := by
  obtain ⟨es, c, hb⟩ := hm
  rintro (rfl | e)
  · rw [h.hd] at hb; cases hb
  · obtain ⟨cs, t, h1, _⟩ := e.blk h
    rw [h1] at hb; cases hb
theorem WS.drew (h : WS w p mb v xs D) : WS w.drew p mb v xs D := ⟨⟨h.r.hd, h.r.row, h.r.it, h.r.bn, h.r.few⟩, h.m.frm rfl, h.ok, h.kn, h.ks⟩
theorem wnext_none (h : WS w p mb v xs D) (h0 : xs.length = 0) : Calls Try.prog 34 #[.pointer (some ⟨p, 0, none⟩)] w fun e w' => e = .returned (.tuple #[.string ⟨#[]⟩, .int .i64 0, .bool false]) ∧ ∃ n, w' = w.drewN n := by
  have H := Aside0.mk h
  have HL : Calls Try.prog 38 #[.pointer (some ⟨p, 0, none⟩)] w fun e w' => e = .returned (.int .i64 0) ∧ w = w' := by
    refine (whlen_any h).mono ?_
    rintro e w' ⟨a, b⟩
    exact ⟨by rw [a, h0]; rfl, b⟩
  have HL := Aside0.mk HL
  clear h
  go_enter Try.func34, Try.ntmps34
  go_wp2_with fail
  (with_reducible refine HL.out.mono ?_); rintro e w2 ⟨rfl, rfl⟩
  go_wp2
  go_ret3
  exact ⟨rfl, 0, rfl⟩
theorem wnext_some (h : WS w p mb v xs D) (m : Nat) (hm : xs.length = m + 1) : Calls Try.prog 34 #[.pointer (some ⟨p, 0, none⟩)] w fun e w' => e = .returned (.tuple #[.string (el z0 xs 0).2.1, .int .i64 (el z0 xs 0).2.2, .bool true]) ∧ ∃ n, w' = w.drewN n := by
  have HL : Calls Try.prog 38 #[.pointer (some ⟨p, 0, none⟩)] w fun e w' => e = .returned (.int .i64 ((m : Int) + 1)) ∧ w = w' := by
    refine (whlen_any h).mono ?_
    rintro e w' ⟨a, b⟩
    exact ⟨by rw [a, hm]; simp, b⟩
  have HL := Aside0.mk HL
  obtain ⟨ad, c, rfl, hc, q1⟩ := h.r.cell 0 (by omega)
  have c0 := h.r.c0
  have a1 := h.r.k1 0 (by omega)
  have b1 := h.r.k0 0 (by omega)
  have e0 : (((m : Int) + 1) == 0) = false := by simp; omega
  have hpos : 0 < xs.length := by omega
  have hz : ad.add 0 = ad := by simp [Addr.add]
  rw [hz] at q1
  generalize el z0 xs 0 = X at *
  obtain ⟨x, kx, tx⟩ := X
  simp only [ptr] at q1 a1 b1
  clear h
  go_enter Try.func34, Try.ntmps34
  go_wp2_with fail
  (with_reducible refine HL.out.mono ?_); rintro e w2 ⟨rfl, rfl⟩
  go_wp2
  go_quiet (fail)
  go_wp2
  go_ret3
  exact ⟨rfl, _, rfl⟩
theorem wdrop_miss (h : WS w p mb v xs D) (k : ByteArray) (hs : k.size ≤ 1000) (hy : ∀ y ∈ xs, y.2.1 ≠ k) : Calls Try.prog 29 #[.pointer (some ⟨p, 0, none⟩), .string k] w fun e w' => e = .returned (.bool false) ∧ w = w' := by
  have c1 := h.r.c1
  have HM := Aside0.mk h.m
  have HY := Lib.hid hy
  have hs := Lib.hid (show k.size ≤ maxLen by unfold maxLen; omega)
  clear h hy
  go_enter Try.func29, Try.ntmps29
  go_wp2_with (first | (at_lookup; refine wp_look_miss _ rfl _ _ rfl mb xs D rfl HM.out _ rfl hs.out HY.out ?_))
  go_wp2
  go_ret
  exact ⟨rfl, rfl⟩
theorem wdrop_nil (k : ByteArray) (w : World) : Calls Try.prog 29 #[.pointer none, .string k] w fun e w' => e = .returned (.bool false) ∧ w = w' := by
  go_enter Try.func29, Try.ntmps29
  go_wp2
  go_ret
  exact ⟨rfl, rfl⟩
/-- Behind a removal from the row the map is as it was. -/
theorem left_map {w w2 : World} {i : Nat} (h : WS w p mb v xs D) (hl : Left w w2 p i (.map (some mb)) v xs) : ∃ v' ys, WR w2 p (.map (some mb)) v' ys ∧ (el z0 xs i :: ys).Perm xs ∧ Ok z0 lessI ys.length ys ∧ v'.ownBlock = v.ownBlock ∧ Frm (fun b => b = p ∨ FW v xs b) w w2 ∧ MapOf w2 mb xs D := by
  obtain ⟨v', ys, h1, h2, h3, h4, h5⟩ := hl
  obtain ⟨es, c, hb⟩ := h.m.blk
  exact ⟨v', ys, h1, h2, h3, h4, h5, h.m.frm (h5.block mb (blk_lt hb) (map_far h.r h.m.blk))⟩
theorem wdrop_hit (h : WS w p mb v xs D) (y : It) (hy : y ∈ xs) : Calls Try.prog 29 #[.pointer (some ⟨p, 0, none⟩), .string y.2.1] w fun e w' => e = .returned (.bool true) ∧ ∃ v' ys D', WS w' p mb v' ys D' ∧ (y :: ys).Perm xs ∧ v'.ownBlock = v.ownBlock ∧ Frm (FO p mb v xs) w w' := by
  obtain ⟨i, hi, he⟩ := List.mem_iff_getElem.1 hy
  have h2 := el_at (z := z0) xs i hi
  rw [List.getElem?_eq_getElem hi, he] at h2
  injection h2 with h2
  have a1 := h.r.k2 i hi
  rw [← h2] at a1
  have c1 := h.r.c1
  have H := Aside0.mk h
  have HM := Aside0.mk h.m
  have HY := Lib.hid hy
  have HI := Lib.hid hi
  have HE := Lib.hid h2
  have hs := Lib.hid (show y.2.1.size ≤ maxLen by have := h.ks y hy; unfold maxLen; omega)
  obtain ⟨m, hm⟩ : ∃ m, xs.length = m + 1 := ⟨xs.length - 1, by omega⟩
  have HMm := Lib.hid hm
  clear h h2 he hi hy hm
  go_enter Try.func29, Try.ntmps29
  go_upto_region 5 with (first | (at_lookup; refine wp_look_hit _ rfl _ _ rfl mb xs D rfl HM.out _ rfl hs.out y HY.out rfl ?_))
  go_region_with (first | (go_at_call 73; refine (hremove_any H.out.drew.r H.out.ok HMm.out HI.out).mono ?_; rintro e w2 ⟨⟨r, rfl⟩, hl⟩; obtain ⟨v', ys, h1, h2, h3, h4, h5, h6⟩ := left_map H.out.drew hl; have HR2 := Aside0.mk h1; have HP2 := Lib.hid h2; have HO2 := Lib.hid h3; have HV2 := Lib.hid h4; have HF2 := Lib.hid h5; have HM2 := Aside0.mk h6; have c2 := h1.c1; clear hl h1 h2 h3 h4 h5 h6))
  go_wp2_with (first | (at_delete; refine wp_delete _ rfl _ _ rfl mb xs ys D rfl HM2.out y rfl hs.out (HE.out ▸ HP2.out) H.out.kn ?_; intro w3 D3 hM3 hG3; have HM3 := Aside0.mk hM3; have HG3 := Aside0.mk hG3; clear hM3 hG3))
  go_ret
  have hp : (y :: ys).Perm xs := HE.out ▸ HP2.out
  have hg : Frm (fun j => j = mb) w2 w3 := ⟨HG3.out.os, HG3.out.tape, HG3.out.output, HG3.out.size, fun j hj hn => HG3.out.block j hj (fun e => hn (by injection e))⟩
  refine ⟨rfl, v', ys, D3, ⟨HR2.out.frm hg (fun b hb e => ?_), HM3.out, HO2.out, ?_, ?_⟩, hp, HV2.out, ?_⟩
  · subst e; exact map_far HR2.out HM2.out.blk hb
  · have := (hp.map (·.2.1)).nodup_iff.2 H.out.kn
    rw [List.map_cons, List.nodup_cons] at this
    exact this.2
  · exact fun x hx => H.out.ks x (hp.mem_iff.1 (by simp [hx]))
  · have h1 : Frm (FO p mb v xs) w w2 := ((Frm.refl (FO p mb v xs) w).drew).trans (HF2.out.mono (fun b _ hb => hb.imp id .inr))
    exact h1.then hg (fun b _ hb => .inr (.inl hb))
end
end Go.Proofs.Ytjgoddieamphpaa.Wh
namespace Go.Proofs.Ytjgoddieamphpaa.Wh
open Go.RowKit Go.Sort Go.Proofs.YtjgoddieamphpaaW.PrintWords Go.Proofs.YtjgoddieamphpaaW.PrintLast Heap Go.Proofs.Ytjgoddieamphpaa.Obj Go.Maps Go.WideMaps
set_option maxRecDepth 100000
set_option linter.unusedVariables false
abbrev KV := ByteArray × Int
def kv (xs : List It) : List KV := xs.map (·.2)
def dropK (K : List KV) (k : ByteArray) : List KV := K.filter fun c => decide (c.1 ≠ k)
theorem dropK_perm {K L : List KV} (h : K.Perm L) (k : ByteArray) : (dropK K k).Perm (dropK L k) := h.filter _
theorem dropK_none {K : List KV} {k : ByteArray} (h : ∀ c ∈ K, c.1 ≠ k) : dropK K k = K := List.filter_eq_self.2 fun c hc => decide_eq_true (h c hc)
theorem dropK_cons {K : List KV} {k : ByteArray} {t : Int} (h : ∀ c ∈ K, c.1 ≠ k) : dropK ((k, t) :: K) k = K := by
  unfold dropK
  rw [List.filter_cons, if_neg (by simp)]
  exact dropK_none h
section
variable {w w1 : World} {p mb : Nat} {v : Value} {xs : List It} {D : DataW Unit}
theorem WS.apart {y : It} {ys : List It} (hn : (xs.map (·.2.1)).Nodup) (hp : (y :: ys).Perm xs) : ∀ z ∈ ys, z.2.1 ≠ y.2.1 := fun z hz e => by
  have := (hp.map (·.2.1)).nodup_iff.2 hn
  rw [List.map_cons, List.nodup_cons] at this
  exact this.1 (by rw [← e]; exact List.mem_map.2 ⟨z, hz, rfl⟩)
theorem kv_apart {ys : List It} {k : ByteArray} (h : ∀ z ∈ ys, z.2.1 ≠ k) : ∀ c ∈ kv ys, c.1 ≠ k := fun c hc => by
  obtain ⟨z, hz, rfl⟩ := List.mem_map.1 hc
  exact h z hz
theorem wdrop_any (h : WS w p mb v xs D) (k : ByteArray) (hs : k.size ≤ 1000) : Calls Try.prog 29 #[.pointer (some ⟨p, 0, none⟩), .string k] w fun e w' => e = .returned (.bool (decide (∃ c ∈ kv xs, c.1 = k))) ∧ ∃ v' ys D', WS w' p mb v' ys D' ∧ (kv ys).Perm (dropK (kv xs) k) ∧ (∀ y ∈ ys, y.2.1 ≠ k) ∧ (∀ b, FO p mb v' ys b → FO p mb v xs b) ∧ Frm (FO p mb v xs) w w' ∧ ys.length ≤ xs.length := by
  by_cases hy : ∃ y ∈ xs, y.2.1 = k
  · obtain ⟨y, hy, rfl⟩ := hy
    refine (wdrop_hit h y hy).mono ?_
    rintro e w' ⟨a, v', ys, D', h1, h2, h3, h4⟩
    have hne := WS.apart h.kn h2
    refine ⟨a.trans ?_, v', ys, D', h1, ?_, hne, ?_, h4, by have := h2.length_eq; simp at this; omega⟩
    · rw [decide_eq_true (show ∃ c ∈ kv xs, c.1 = y.2.1 from ⟨y.2, List.mem_map.2 ⟨y, hy, rfl⟩, rfl⟩)]
    · have h5 := dropK_perm (h2.map (·.2)) y.2.1
      have h6 : dropK ((y :: ys).map (·.2)) y.2.1 = kv ys := dropK_cons (t := y.2.2) (kv_apart hne)
      rw [h6] at h5
      exact h5
    · rintro b (e | e | e | e)
      · exact .inl e
      · exact .inr (.inl e)
      · exact .inr (.inr (.inl (by rw [e, h3])))
      · exact .inr (.inr (.inr ((h2.map (·.1)).mem_iff.1 (by rw [List.map_cons]; exact List.mem_cons_of_mem _ e))))
  · have hne : ∀ y ∈ xs, y.2.1 ≠ k := fun y h1 e => hy ⟨y, h1, e⟩
    refine (wdrop_miss h k hs hne).mono ?_
    rintro e w' ⟨a, rfl⟩
    refine ⟨a.trans ?_, v, xs, D, h, by rw [dropK_none (kv_apart hne)], hne, fun b hb => hb, Frm.refl _ _, Nat.le_refl _⟩
    rw [decide_eq_false]
    rintro ⟨c, hc, e⟩
    exact kv_apart hne c hc e
theorem wput_nil (k : ByteArray) (t : Int) (w : World) : Calls Try.prog 27 #[.pointer none, .string k, .int .i64 t] w fun e w' => e = .returned (.tuple #[]) ∧ w = w' := by
  go_enter Try.func27, Try.ntmps27
  go_wp2
  (try simp only [Exit.inBlock, Exit.then]); refine bodyPost_ret (results_none rfl _ _ _) rfl ?_
  exact ⟨rfl, rfl⟩
set_option maxHeartbeats 1000000 in
theorem wput_any (h : WS w p mb v xs D) (k : ByteArray) (hs : k.size ≤ 1000) (t : Int) (hl : xs.length < 9999) : Calls Try.prog 27 #[.pointer (some ⟨p, 0, none⟩), .string k, .int .i64 t] w fun e w' => e = .returned (.tuple #[]) ∧ ∃ v' zs D', WS w' p mb v' zs D' ∧ (kv zs).Perm (dropK (kv xs) k ++ [(k, t)]) ∧ (∀ b, FO p mb v' zs b → FO p mb v xs b ∨ w.heap.size ≤ b) ∧ Frm (FO p mb v xs) w w' := by
  have H := Aside0.mk h
  have hs' := Lib.hid hs
  have hsm := Lib.hid (show k.size ≤ maxLen by unfold maxLen; omega)
  clear h hs
  go_enter Try.func27, Try.ntmps27
  go_wp2_with fail
  (with_reducible refine (wdrop_any H.out k hs'.out).mono ?_); rintro e w2 ⟨rfl, v2, ys, D2, h2, hp2, hn2, ho2, hf2, hl2⟩
  have H2 := Aside0.mk h2
  have HP2 := Lib.hid hp2
  have HN2 := Lib.hid hn2
  have HO2 := Lib.hid ho2
  have HF2 := Lib.hid hf2
  have HS2 := Lib.hid (show w.heap.size ≤ w2.heap.size from hf2.size)
  have HYL := Lib.hid (show ys.length < maxLen by unfold maxLen; omega)
  clear h2 hp2 hn2 ho2 hf2
  go_upto_region 3 with (fail)
  obtain ⟨wa, hwa⟩ : ∃ wa, wa = w2.alloc (.cells #[.string k, .int .i64 t, .int .i64 0] 111) := ⟨_, rfl⟩
  rw [← hwa]
  obtain ⟨q, hq⟩ : ∃ q, q = w2.heap.size := ⟨_, rfl⟩
  rw [← hq]
  have hfa : Frm (FO p mb v xs) w wa := by rw [hwa]; exact HF2.out.alloc _
  have hfa2 : Frm (fun _ => False) w2 wa := by rw [hwa]; exact (Frm.refl _ w2).alloc _
  have hqa : wa.heap[q]? = some (.cells #[.string k, .int .i64 t, .int .i64 0] 111 (0, 0)) := by rw [hwa, hq]; exact blk_new _ _
  have HA : Aside0 (WS wa p mb v2 ys D2) := ⟨H2.out.frm hfa2 (fun _ _ e => e)⟩
  have HFA := Lib.hid hfa
  have HQA := Lib.hid hqa
  have HQ := Lib.hid hq
  have HMA := Aside0.mk HA.out.m
  have hpm := HA.out.r.c1
  have hnq : q ∉ ys.map (·.1) := fun e => by
    have := H2.out.own_lt q (.inr (.inr (.inr e)))
    rw [hq] at this; omega
  have HNQ := Lib.hid hnq
  clear hwa hfa hfa2 hqa hq hnq
  go_upto_region 4 with (first | (at_mapUpdate; refine wp_store _ rfl _ _ _ rfl mb ys D2 rfl HMA.out HYL.out (q, k, t) rfl rfl hsm.out HN2.out ?_; intro w3 D3 hM3 hG3; have HM3 := Aside0.mk hM3; have HG3 := Aside0.mk hG3; clear hM3 hG3))
  have hg3 : Frm (fun j => j = mb) wa w3 := ⟨HG3.out.os, HG3.out.tape, HG3.out.output, HG3.out.size, fun j hj hn => HG3.out.block j hj (fun e => hn (by injection e))⟩
  have HW3 : Aside0 (WR w3 p (.map (some mb)) v2 ys) := ⟨HA.out.r.frm hg3 (fun b hb e => by subst e; exact map_far HA.out.r HA.out.m.blk hb)⟩
  have HQ3 : Aside0 (w3.heap[q]? = some (.cells #[.string k, .int .i64 t, .int .i64 0] 111 (0, 0))) := Aside0.mk (hg3.blk HQA.out (fun e => by obtain ⟨es, c, hb⟩ := HA.out.m.blk; rw [← e, HQA.out] at hb; cases hb))
  have HF3 := Lib.hid (HFA.out.then hg3 (fun b _ hb => .inr (.inl hb)))
  have HS3 := Lib.hid (Nat.le_trans HFA.out.size hg3.size)
  clear hg3 hpm
  go_wp2_with fail
  (with_reducible refine (hpush_any HW3.out HA.out.ok HQ3.out HNQ.out (by omega)).mono ?_); rintro e w4 ⟨rfl, v4, zs, h4, hp4, ho4, hw4, hf4⟩
  have H4 := Aside0.mk h4
  have HP4 := Lib.hid hp4
  have HO4 := Lib.hid ho4
  have HW4 := Lib.hid hw4
  have HF4 := Lib.hid hf4
  clear h4 hp4 ho4 hw4 hf4
  go_wp2
  go_end0
  obtain ⟨es, c, hmb⟩ := HM3.out.blk
  have hq3 := HQ3.out
  have hnm : ¬ (mb = p ∨ mb = q ∨ FW v2 ys mb) := by
    rintro (e | e | e)
    · exact map_far HW3.out HM3.out.blk (.inl e)
    · rw [e, hq3] at hmb; cases hmb
    · exact map_far HW3.out HM3.out.blk (.inr e)
  have hM4 : MapOf w4 mb zs D3 := (HM3.out.frm (HF4.out.block mb (blk_lt hmb) hnm)).perm HP4.out
  have hkn : ((ys ++ [(q, k, t)]).map (·.2.1)).Nodup := by
    rw [List.map_append]
    refine List.nodup_append.2 ⟨HA.out.kn, by simp, fun a ha b hb => ?_⟩
    have hb : b = k := by simpa using hb
    subst hb
    obtain ⟨y, hy, rfl⟩ := List.mem_map.1 ha
    exact HN2.out y hy
  have hwsz := HS3.out
  have hw2 := HS2.out
  refine ⟨rfl, v4, zs, D3, ⟨H4.out, hM4, HO4.out, (HP4.out.map (·.2.1)).nodup_iff.2 hkn, fun x hx => ?_⟩, ?_, ?_, ?_⟩
  · rcases List.mem_append.1 (HP4.out.mem_iff.1 hx) with hx | hx
    · exact HA.out.ks x hx
    · obtain rfl := List.mem_singleton.1 hx; exact hs'.out
  · have h5 : (kv zs).Perm (kv (ys ++ [(q, k, t)])) := HP4.out.map (fun x : It => x.2)
    refine h5.trans ?_
    show ((ys ++ [(q, k, t)]).map (·.2)).Perm _
    rw [List.map_append]
    exact HP2.out.append_right _
  · rintro b (e | e | e | e)
    · exact .inl (.inl e)
    · exact .inl (.inr (.inl e))
    · rcases HW4.out b e with e | e
      · exact .inl (HO2.out b (.inr (.inr (.inl e))))
      · exact .inr (Nat.le_trans hwsz e)
    · have e := (HP4.out.map (·.1)).mem_iff.1 e
      rw [List.map_append] at e
      rcases List.mem_append.1 e with e | e
      · exact .inl (HO2.out b (.inr (.inr (.inr e))))
      · have e : b = q := by simpa using e
        rw [e, HQ.out]; exact .inr hw2
  · refine HF3.out.then HF4.out (fun b hb e => ?_)
    rcases e with e | e | e
    · exact .inl e
    · rw [e, HQ.out] at hb; omega
    · exact HO2.out b (.inr (.inr e))
end
end Go.Proofs.Ytjgoddieamphpaa.Wh
