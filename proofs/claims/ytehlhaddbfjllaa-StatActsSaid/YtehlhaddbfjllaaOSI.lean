/- Maps of texts to numbers, and what counts in them: a part of the proof. -/
import Derived.Test.YtehlhaddbfjllaaOSH
namespace Go.Proofs.Ytehlhaddbfjllaa.Mp
open Go.RowKit Go.Sort Go.Proofs.YtehlhaddbfjllaaW.PrintWords Go.Proofs.YtehlhaddbfjllaaW.PrintLast Go.Proofs.YtehlhaddbfjllaaW.PrintMore Go.Proofs.Ytehlhaddbfjllaa.PStatActs
set_option maxRecDepth 100000
set_option linter.unusedVariables false
/-! Adding, in whatever order. -/
theorem dropK_cons_ne {K : List KV} {c : KV} {k : ByteArray} (h : c.1 ≠ k) : dropK (c :: K) k = c :: dropK K k := by unfold dropK; rw [List.filter_cons, if_pos (decide_eq_true h)]
theorem dropK_cons_eq {K : List KV} {c : KV} {k : ByteArray} (h : c.1 = k) : dropK (c :: K) k = dropK K k := by unfold dropK; rw [List.filter_cons, if_neg (by simp [h])]
theorem dropK_idem (K : List KV) (k : ByteArray) : dropK (dropK K k) k = dropK K k := by
  unfold dropK
  rw [List.filter_filter]
  exact List.filter_congr fun c _ => by simp
theorem dropK_comm (K : List KV) (a b : ByteArray) : dropK (dropK K a) b = dropK (dropK K b) a := by
  unfold dropK
  rw [List.filter_filter, List.filter_filter]
  exact List.filter_congr fun c _ => Bool.and_comm _ _
theorem getK_cons_eq (K : List KV) (k : ByteArray) (v : Int) : getK ((k, v) :: K) k = v := by
  unfold getK
  rw [List.find?_cons_of_pos (by simp)]
theorem getK_cons_ne {K : List KV} {c : KV} {k : ByteArray} (h : c.1 ≠ k) : getK (c :: K) k = getK K k := by
  unfold getK
  rw [List.find?_cons_of_neg (by simpa using h)]
theorem getK_drop {K : List KV} {a b : ByteArray} (h : a ≠ b) : getK (dropK K a) b = getK K b := by
  induction K with
  | nil => rfl
  | cons c t ih =>
    by_cases e : c.1 = a
    · rw [dropK_cons_eq e, ih, getK_cons_ne (by rw [e]; exact h)]
    · rw [dropK_cons_ne e]
      by_cases e2 : c.1 = b
      · obtain ⟨c1, c2⟩ := c
        have e2 : c1 = b := e2
        subst e2
        rw [getK_cons_eq, getK_cons_eq]
      · rw [getK_cons_ne e2, getK_cons_ne e2, ih]
theorem addK_nd {K : List KV} (h : ND K) (k : ByteArray) (n : Int) : ND (addK K k n) := by
  unfold addK
  split
  · exact h.put k _
  · exact h
theorem addK_perm {K K' : List KV} (hn : ND K) (hp : K.Perm K') (k : ByteArray) (n : Int) : (addK K k n).Perm (addK K' k n) := by
  unfold addK
  split
  · rw [getK_perm hn hp]
    exact (hp.filter _).cons _
  · exact hp
theorem nadd_3 (g n m : Int) : nadd (nadd g n) m = nadd (nadd g m) n := by
  have h1 := hold_rng g
  have h2 := hold_rng n
  have h3 := hold_rng m
  have e : ∀ x, 0 ≤ x → x ≤ 4611686018427387904 → hold x = x := fun x a b => by unfold hold; omega
  have r : ∀ x y, 0 ≤ nadd x y ∧ nadd x y ≤ 4611686018427387904 := fun x y => by
    have a := hold_rng x
    have b := hold_rng y
    unfold nadd
    split <;> omega
  have k : ∀ x y z, nadd (nadd x y) z = if 4611686018427387904 < hold x + hold y + hold z then 4611686018427387904 else hold x + hold y + hold z := fun x y z => by
    have hx := hold_rng x
    have hy := hold_rng y
    have hz := hold_rng z
    have hr := r x y
    have e1 := e (nadd x y) hr.1 hr.2
    have e2 : nadd x y = if 4611686018427387904 < hold x + hold y then 4611686018427387904 else hold x + hold y := by unfold nadd; split <;> split <;> omega
    rw [show nadd (nadd x y) z = if 4611686018427387904 - hold z < hold (nadd x y) then 4611686018427387904 else hold (nadd x y) + hold z from rfl, e1, e2]
    split <;> split <;> split <;> omega
  rw [k, k]
  split <;> split <;> omega
theorem addK_comm {K : List KV} (a b : ByteArray) (n m : Int) : (addK (addK K a n) b m).Perm (addK (addK K b m) a n) := by
  by_cases hn : 1 ≤ n
  · by_cases hm : 1 ≤ m
    · have e1 : ∀ (K : List KV) k x, 1 ≤ x → addK K k x = (k, nadd (getK K k) x) :: dropK K k := fun K k x h => if_pos h
      rw [e1 K a n hn, e1 K b m hm, e1 _ b m hm, e1 _ a n hn]
      by_cases h : a = b
      · subst h
        rw [getK_cons_eq, getK_cons_eq, dropK_cons_eq rfl, dropK_cons_eq rfl, nadd_3]
      · rw [getK_cons_ne (c := (a, nadd (getK K a) n)) h, getK_cons_ne (c := (b, nadd (getK K b) m)) (fun e => h e.symm), getK_drop h, getK_drop (fun e => h e.symm), dropK_cons_ne (c := (a, nadd (getK K a) n)) h, dropK_cons_ne (c := (b, nadd (getK K b) m)) (fun e => h e.symm), dropK_comm]
        exact List.Perm.swap _ _ _
    · have e1 : ∀ (K : List KV) k, addK K k m = K := fun K k => if_neg hm
      rw [e1, e1]
  · have e1 : ∀ (K : List KV) k, addK K k n = K := fun K k => if_neg hn
    rw [e1, e1]
theorem addsK_cons (K : List KV) (c : KV) (l : List KV) : addsK K (c :: l) = addsK (addK K c.1 c.2) l := rfl
theorem addsK_nd {l : List KV} : ∀ {K : List KV}, ND K → ND (addsK K l) := by
  induction l with
  | nil => exact fun h => h
  | cons c t ih =>
    intro K h
    rw [addsK_cons]
    exact ih (addK_nd h c.1 c.2)
theorem addsK_permK {l : List KV} : ∀ {K K' : List KV}, ND K → K.Perm K' → (addsK K l).Perm (addsK K' l) := by
  induction l with
  | nil => exact fun _ h => h
  | cons c t ih =>
    intro K K' hn h
    rw [addsK_cons, addsK_cons]
    exact ih (addK_nd hn c.1 c.2) (addK_perm hn h c.1 c.2)
theorem addsK_perm {l l' : List KV} (h : l.Perm l') : ∀ {K : List KV}, ND K → (addsK K l).Perm (addsK K l') := by
  induction h with
  | nil => exact fun _ => List.Perm.refl _
  | cons x _ ih =>
    intro K hn
    rw [addsK_cons, addsK_cons]
    exact ih (addK_nd hn x.1 x.2)
  | swap x y l =>
    intro K hn
    rw [addsK_cons, addsK_cons, addsK_cons, addsK_cons]
    exact addsK_permK (addK_nd (addK_nd hn y.1 y.2) x.1 x.2) (addK_comm y.1 x.1 y.2 x.2)
  | trans _ _ ih1 ih2 => exact fun hn => (ih1 hn).trans (ih2 hn)
theorem addsK_len (l : List KV) : ∀ K : List KV, (addsK K l).length ≤ K.length + l.length := by
  induction l with
  | nil => exact fun K => Nat.le_refl _
  | cons c t ih => exact fun K => by have := ih (addK K c.1 c.2); have := addK_len K c.1 c.2; rw [addsK_cons, List.length_cons]; omega
theorem sortK_perm {K K' : List KV} (h : K.Perm K') : sortK K = sortK K' := by
  unfold sortK
  rw [mergeSort_of_perm (show (keysK K).Perm (keysK K') from h.map _)]
theorem listK_perm {K K' : List KV} (hn : ND K) (h : K.Perm K') (q : ByteArray) : listK K q = listK K' q := by
  unfold listK
  rw [sortK_perm h]
  congr 1
  funext k
  rw [getK_perm hn h]
/-- What an act adds. -/
def actA (x : S53) : List KV := if x.f0 = 0 then [(x.f1, x.f2)] else noteA x.f1 x.f3 x.f4
theorem noteA_len (p : ByteArray) (v : S51) (lc : Bool) : (noteA p v lc).length ≤ 6 := by
  unfold noteA
  split <;> split <;> simp
theorem actA_len (x : S53) : (actA x).length ≤ 6 := by
  unfold actA
  split
  · simp
  · exact noteA_len _ _ _
theorem flat_len (l : List S53) : (l.flatMap actA).length ≤ 6 * l.length := by
  induction l with
  | nil => simp
  | cons x t ih => have := actA_len x; rw [List.flatMap_cons, List.length_append, List.length_cons]; omega
/-- The row, begun elsewhere. -/
def rotL (l : List S53) (f : Nat) : List S53 := l.drop f ++ l.take f
theorem rotL_perm (l : List S53) (f : Nat) : (rotL l f).Perm l := by
  unfold rotL
  have := List.perm_append_comm (l₁ := l.drop f) (l₂ := l.take f)
  rw [List.take_append_drop] at this
  exact this
theorem rotL_len (l : List S53) (f : Nat) : (rotL l f).length = l.length := (rotL_perm l f).length_eq
theorem rotL_at {l : List S53} {f i : Nat} (hf : f < l.length) (hi : i < l.length) : (rotL l f).getD i z53 = l.getD ((i + f) % l.length) z53 := by
  unfold rotL
  rw [List.getD_eq_getElem?_getD, List.getD_eq_getElem?_getD]
  by_cases h : i < l.length - f
  · rw [List.getElem?_append_left (by rw [List.length_drop]; exact h), List.getElem?_drop, Nat.mod_eq_of_lt (by omega), Nat.add_comm]
  · rw [List.getElem?_append_right (by rw [List.length_drop]; omega), List.length_drop, List.getElem?_take_of_lt (by omega)]
    have e : (i + f) % l.length = i - (l.length - f) := by
      rw [Nat.mod_eq_sub_mod (by omega), Nat.mod_eq_of_lt (by omega)]
      omega
    rw [e]
theorem take_flat {l : List S53} {i : Nat} (hi : i < l.length) (K : List KV) : addsK K ((l.take (i + 1)).flatMap actA) = addsK (addsK K ((l.take i).flatMap actA)) (actA (l.getD i z53)) := by
  rw [List.take_add_one, List.getElem?_eq_getElem hi, List.flatMap_append, addsK_app, List.getD_eq_getElem?_getD, List.getElem?_eq_getElem hi]
  show addsK _ (List.flatMap actA [l[i]]) = addsK _ (actA l[i])
  rw [List.flatMap_cons, List.flatMap_nil, List.append_nil]
end Go.Proofs.Ytehlhaddbfjllaa.Mp
