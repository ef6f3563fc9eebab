/- A table's slots in memory. -/
import Derived.Test.YtjgoddieamphpaaOTB
import Derived.Test.YtjgoddieamphpaaOProbePure
import Derived.Deep.LoopGhost
namespace Go.Proofs.Ytjgoddieamphpaa.Obj
open Go.RowKit Go.Proofs.YtjgoddieamphpaaW.PrintWords Go.Proofs.YtjgoddieamphpaaW.PrintLast Probe
set_option maxRecDepth 100000
variable {α : Type}
/-- The three cells of a slot. -/
def c3 (enc : α → Value) (zv : Value) : Option (Ent α) → List Value
  | none => [.bool false, .string ⟨#[]⟩, zv]
  | some (k, v) => [.bool true, .string k, enc v]
theorem c3_len (enc : α → Value) (zv : Value) (x : Option (Ent α)) : (c3 enc zv x).length = 3 := by cases x <;> rfl
def flat (enc : α → Value) (zv : Value) (sl : List (Option (Ent α))) : List Value := sl.flatMap (c3 enc zv)
theorem flat_len (enc : α → Value) (zv : Value) (sl : List (Option (Ent α))) : (flat enc zv sl).length = sl.length * 3 := by
  induction sl with
  | nil => rfl
  | cons x t ih => unfold flat at *; rw [List.flatMap_cons, List.length_append, ih, c3_len, List.length_cons]; omega
theorem flat_get (enc : α → Value) (zv : Value) (sl : List (Option (Ent α))) (i j : Nat) (hi : i < sl.length) (hj : j < 3) : (flat enc zv sl)[i * 3 + j]? = (c3 enc zv (at_ sl i))[j]? := by
  induction sl generalizing i with
  | nil => simp at hi
  | cons x t ih =>
    unfold flat; rw [List.flatMap_cons]
    cases i with
    | zero =>
      rw [List.getElem?_append_left (by rw [c3_len]; omega)]
      simp [at_]
    | succ i =>
      rw [List.getElem?_append_right (by rw [c3_len]; omega), c3_len]
      have := ih i (by simpa using hi)
      unfold flat at this
      rw [show (i + 1) * 3 + j - 3 = i * 3 + j by omega, this]
      simp [at_]
theorem flat_set (enc : α → Value) (zv : Value) (sl : List (Option (Ent α))) (i : Nat) (x : Option (Ent α)) (a b c : Value) (hx : c3 enc zv x = [a, b, c]) (hi : i < sl.length) :
    (((flat enc zv sl).set (i * 3) a).set (i * 3 + 1) b).set (i * 3 + 2) c = flat enc zv (sl.set i x) := by
  apply List.ext_getElem?
  intro q
  by_cases hq : q < sl.length * 3
  · have hr : q = q / 3 * 3 + q % 3 := by omega
    have hj : q % 3 < 3 := by omega
    have hp : q / 3 < sl.length := by omega
    generalize q / 3 = m at *
    generalize q % 3 = j at *
    subst hr
    rw [flat_get _ _ _ _ _ (by simpa using hp) hj, at_set _ _ _ _ hi]
    by_cases hm : i = m
    · subst hm
      rw [if_pos rfl, hx]
      have hl := flat_len enc zv sl
      match j, hj with
      | 0, _ => rw [List.getElem?_set_ne (by omega), List.getElem?_set_ne (by omega)]; exact List.getElem?_set_self (by omega)
      | 1, _ => rw [List.getElem?_set_ne (by omega), List.getElem?_set_self (by simp; omega)]; rfl
      | 2, _ => rw [List.getElem?_set_self (by simp; omega)]; rfl
    · rw [if_neg hm, List.getElem?_set_ne (by omega), List.getElem?_set_ne (by omega), List.getElem?_set_ne (by omega), flat_get _ _ _ _ _ hp hj]
  · have hl := flat_len enc zv sl
    have hl2 := flat_len enc zv (sl.set i x)
    rw [List.getElem?_eq_none (by simp; omega), List.getElem?_eq_none (by rw [hl2]; simp; omega)]

/-- A table: its head in block p (type T), its slots in block b (type S). -/
structure Tab (enc : α → Value) (zv : Value) (T S : Nat) (w : World) (p b : Nat) (most : Nat) (sl : List (Option (Ent α))) : Prop where
  hd : w.heap[p]? = some (.cells #[.int .i64 most, .int .i64 ((items sl).length : Nat), .slice (some ⟨b, 0, none⟩) (2 * most) (2 * most)] T (0, 0))
  bk : w.heap[b]? = some (.cells (flat enc zv sl).toArray S (0, 0))
  wf : WF (fun k => slotN k (2 * most)) (2 * most) sl
  room : (items sl).length ≤ most
  pos : 1 ≤ most
  big : most ≤ 4096
  keys : ∀ x ∈ items sl, x.1.size ≤ 9223372036854775807
section
variable {enc : α → Value} {zv : Value} {T S : Nat} {w w1 : World} {p b most : Nat} {sl : List (Option (Ent α))}
theorem Tab.len (h : Tab enc zv T S w p b most sl) : sl.length = 2 * most := h.wf.len
theorem Tab.c0 (h : Tab enc zv T S w p b most sl) : w.cell? ⟨p, 0, none⟩ = some (.int .i64 most) := (blk_cell h.hd 0).trans rfl
theorem Tab.c1 (h : Tab enc zv T S w p b most sl) : w.cell? ⟨p, 1, none⟩ = some (.int .i64 ((items sl).length : Nat)) := (blk_cell h.hd 1).trans rfl
theorem Tab.c2 (h : Tab enc zv T S w p b most sl) : w.cell? ⟨p, 2, none⟩ = some (.slice (some ⟨b, 0, none⟩) (2 * most) (2 * most)) := (blk_cell h.hd 2).trans rfl
theorem Tab.cell (h : Tab enc zv T S w p b most sl) (i j : Nat) (hi : i < 2 * most) (hj : j < 3) : w.cell? ⟨b, i * 3 + j, none⟩ = (c3 enc zv (at_ sl i))[j]? := by
  rw [blk_cell h.bk, List.getElem?_toArray, flat_get _ _ _ _ _ (by rw [h.len]; exact hi) hj]
theorem Tab.none_at (h : Tab enc zv T S w p b most sl) {i : Nat} (hi : i < 2 * most) (e : at_ sl i = none) : w.cell? ⟨b, i * 3, none⟩ = some (.bool false) ∧ w.cell? ⟨b, i * 3 + 1, none⟩ = some (.string ⟨#[]⟩) ∧ w.cell? ⟨b, i * 3 + 2, none⟩ = some zv := by
  have a := h.cell i 0 hi (by omega); have b := h.cell i 1 hi (by omega); have c := h.cell i 2 hi (by omega)
  rw [e] at a b c
  exact ⟨a, b, c⟩
theorem Tab.some_at (h : Tab enc zv T S w p b most sl) {i : Nat} (hi : i < 2 * most) {k : ByteArray} {v : α} (e : at_ sl i = some (k, v)) : w.cell? ⟨b, i * 3, none⟩ = some (.bool true) ∧ w.cell? ⟨b, i * 3 + 1, none⟩ = some (.string k) ∧ w.cell? ⟨b, i * 3 + 2, none⟩ = some (enc v) := by
  have a := h.cell i 0 hi (by omega); have b := h.cell i 1 hi (by omega); have c := h.cell i 2 hi (by omega)
  rw [e] at a b c
  exact ⟨a, b, c⟩
theorem Tab.move (h : Tab enc zv T S w p b most sl) (hp : w1.heap[p]? = w.heap[p]?) (hb : w1.heap[b]? = w.heap[b]?) : Tab enc zv T S w1 p b most sl :=
  ⟨hp.trans h.hd, hb.trans h.bk, h.wf, h.room, h.pos, h.big, h.keys⟩
theorem Tab.frm (h : Tab enc zv T S w p b most sl) {F : Nat → Prop} (k : Frm F w w1) (hp : ¬ F p) (hb : ¬ F b) : Tab enc zv T S w1 p b most sl :=
  h.move (k.block p (blk_lt h.hd) hp) (k.block b (blk_lt h.bk) hb)
theorem Tab.drew (h : Tab enc zv T S w p b most sl) : Tab enc zv T S w.drew p b most sl := h.move rfl rfl
theorem Tab.drewN (h : Tab enc zv T S w p b most sl) (n : Nat) : Tab enc zv T S (w.drewN n) p b most sl := h.move rfl rfl
theorem Tab.free (h : Tab enc zv T S w p b most sl) : (items sl).length < 2 * most := by have := h.room; have := h.pos; omega
end
theorem mod_cyc (N x : Nat) (h : x < 2 * N) : x % N = cyc N x := by
  unfold cyc
  split
  · exact Nat.mod_eq_of_lt ‹_›
  · rw [Nat.mod_eq_sub_mod (by omega), Nat.mod_eq_of_lt (by omega)]
theorem cyc_step (N h d : Nat) (hh : h < N) (hd : d + 1 < N) : (cyc N (h + d) + 1) % N = cyc N (h + (d + 1)) := by
  rw [mod_cyc _ _ (by have := cyc_lt (N := N) (x := h + d) (by omega); omega)]
  unfold cyc; split <;> split <;> (try split) <;> omega
theorem bytes_beq_true (a : ByteArray) : (a.toList == a.toList) = true := by simp
theorem bytes_ne {a b : ByteArray} (h : a ≠ b) : a.toList ≠ b.toList := by
  intro e; apply h
  have e1 : a.toList = a.data.toList := by exact ByteArray.toList_eq a
  have e2 : b.toList = b.data.toList := by exact ByteArray.toList_eq b
  rw [e1, e2] at e
  cases a; cases b; simp at e; simp [e]
end Go.Proofs.Ytjgoddieamphpaa.Obj
