/- A part of the proof. -/
import Derived.Test.YtjgoddieamphpaaOTObj
import Derived.Maps.OwnSet
import Derived.Sort.Walk0
import Derived.Deep.QuietTactic
import Derived.BigQuiet
import Derived.Test.YtjgoddieamphpaaOHeapPure
namespace Go.Proofs.Ytjgoddieamphpaa.Wh
open Go.RowKit Go.Sort Go.Proofs.YtjgoddieamphpaaW.PrintWords Go.Proofs.YtjgoddieamphpaaW.PrintLast Heap Go.Proofs.Ytjgoddieamphpaa.Obj
set_option maxRecDepth 100000
set_option linter.unusedVariables false
/-- What ends: its block, its key, when. -/
abbrev It := Nat × ByteArray × Int
def z0 : It := (0, ⟨#[]⟩, 0)
def bl (a b : ByteArray) : Bool := Op.bytesLess a.toList b.toList
def lessI (a b : It) : Bool := decide (a.2.2 < b.2.2) || (decide (a.2.2 = b.2.2) && bl a.2.1 b.2.1)
theorem bl_iff (a b : ByteArray) : bl a b = true ↔ a.data.toList < b.data.toList := by
  unfold bl
  rw [bytesLess_eq, ByteArray.toList_eq, ByteArray.toList_eq]
  exact decide_eq_true_iff
theorem lessI_wo : WO lessI := by
  have tr : ∀ a b c : List UInt8, a < b → b < c → a < c := fun a b c h k => List.lt_trans h k
  refine ⟨fun a => ?_, fun a b c h k => ?_, fun a b c h k => ?_⟩
  · unfold lessI
    have : ¬ bl a.2.1 a.2.1 = true := by rw [bl_iff]; exact List.lt_irrefl _
    simp [this]
  · unfold lessI at *
    simp only [Bool.or_eq_true, Bool.and_eq_true, decide_eq_true_eq, bl_iff] at *
    rcases h with h | ⟨h, h'⟩ <;> rcases k with k | ⟨k, k'⟩
    · exact .inl (by omega)
    · exact .inl (by omega)
    · exact .inl (by omega)
    · exact .inr ⟨by omega, tr _ _ _ h' k'⟩
  · have e : ∀ x y : It, lessI x y = false ↔ ¬ (x.2.2 < y.2.2 ∨ x.2.2 = y.2.2 ∧ x.2.1.data.toList < y.2.1.data.toList) := fun x y => by
      unfold lessI
      rw [← Bool.not_eq_true]
      simp only [Bool.or_eq_true, Bool.and_eq_true, decide_eq_true_eq, bl_iff]
    rw [e] at *
    rintro (q | ⟨q, q'⟩)
    · by_cases h1 : a.2.2 < b.2.2
      · exact h (.inl h1)
      · exact k (.inl (by omega))
    · by_cases h1 : a.2.2 < b.2.2
      · exact h (.inl h1)
      · by_cases h2 : b.2.2 < c.2.2
        · exact k (.inl h2)
        · have e1 : ¬ a.2.1.data.toList < b.2.1.data.toList := fun h3 => h (.inr ⟨by omega, h3⟩)
          have e2 : ¬ b.2.1.data.toList < c.2.1.data.toList := fun h3 => k (.inr ⟨by omega, h3⟩)
          exact absurd q' (List.not_lt.2 (List.le_trans (List.not_lt.1 e2) (List.not_lt.1 e1)))
def ptr (n : Nat) : Value := .pointer (some ⟨n, 0, none⟩)
/-- The row of a wheel in memory: its cell, its items, each with its place. -/
structure WR (w : World) (p : Nat) (u v : Value) (xs : List It) : Prop where
  hd : w.heap[p]? = some (.cells #[v, u] 108 (0, 0))
  row : w.ownsRow 0 109 1 v xs.length (xs.map fun x => ptr x.1)
  it : ∀ i, i < xs.length → w.heap[(el z0 xs i).1]? = some (.cells #[.string (el z0 xs i).2.1, .int .i64 (el z0 xs i).2.2, .int .i64 (i : Nat)] 111 (0, 0))
  bn : (xs.map (·.1)).Nodup
  few : xs.length ≤ 10000
section
variable {w w1 : World} {p : Nat} {u v : Value} {xs : List It}
theorem WR.c0 (h : WR w p u v xs) : w.cell? ⟨p, 0, none⟩ = some v := (blk_cell h.hd 0).trans rfl
theorem WR.c1 (h : WR w p u v xs) : w.cell? ⟨p, 1, none⟩ = some u := (blk_cell h.hd 1).trans rfl
theorem WR.slice (h : WR w p u v xs) : ∃ A c, v = .slice A xs.length c ∧ xs.length ≤ c := by
  rcases h.row.2 with ⟨e, e0⟩ | ⟨g, cap, cur, e, _, _, h1, _⟩
  · exact ⟨none, 0, by rw [e, e0], by omega⟩
  · exact ⟨_, cap, e, h1⟩
/-- The row's cells. -/
theorem WR.open_ (h : WR w p u v xs) (h0 : 0 < xs.length) : ∃ g cap cur, v = .slice (some ⟨g, 0, none⟩) xs.length cap ∧ w.heap[g]? = some (.cells cur 109 (0, 0)) ∧ xs.length ≤ cap ∧ ∀ i, i < xs.length → cur[i]? = some (ptr (el z0 xs i).1) := by
  obtain ⟨hl, ⟨e, e0⟩ | ⟨g, cap, cur, e, _, hb, h1, h2, h3, h4⟩⟩ := h.row
  · omega
  · refine ⟨g, cap, cur, e, hb, h1, fun i hi => ?_⟩
    have h5 : (cur.toList.take (xs.length * 1))[i]? = some (ptr (el z0 xs i).1) := by
      rw [h4, List.getElem?_map, el_at xs i hi]; rfl
    rw [List.getElem?_take_of_lt (by omega)] at h5
    simpa using h5
theorem WR.cell (h : WR w p u v xs) (i : Nat) (hi : i < xs.length) : ∃ (ad : Addr) (c : Nat), v = .slice (some ad) xs.length c ∧ xs.length ≤ c ∧ w.cell? (ad.add i) = some (ptr (el z0 xs i).1) := by
  obtain ⟨g, cap, cur, e, hb, h1, h2⟩ := h.open_ (by omega)
  refine ⟨_, cap, e, h1, ?_⟩
  have := blk_cell hb i
  rw [h2 i hi] at this
  have e1 : (Addr.add ⟨g, 0, none⟩ i) = ⟨g, i, none⟩ := by simp [Addr.add]; omega
  rw [e1]; exact this
theorem WR.k0 (h : WR w p u v xs) (i : Nat) (hi : i < xs.length) : w.cell? ⟨(el z0 xs i).1, 0, none⟩ = some (.string (el z0 xs i).2.1) := (blk_cell (h.it i hi) 0).trans rfl
theorem WR.k1 (h : WR w p u v xs) (i : Nat) (hi : i < xs.length) : w.cell? ⟨(el z0 xs i).1, 1, none⟩ = some (.int .i64 (el z0 xs i).2.2) := (blk_cell (h.it i hi) 1).trans rfl
theorem WR.k2 (h : WR w p u v xs) (i : Nat) (hi : i < xs.length) : w.cell? ⟨(el z0 xs i).1, 2, none⟩ = some (.int .i64 (i : Nat)) := (blk_cell (h.it i hi) 2).trans rfl
theorem WR.drewN (h : WR w p u v xs) (n : Nat) : WR (w.drewN n) p u v xs := ⟨h.hd, h.row, h.it, h.bn, h.few⟩
theorem meth_less (p : Nat) (v : Value) (w : World) (h : w.cell? ⟨p, 0, none⟩ = some v) : (method 276 113 (.pointer (some ⟨p, 0, none⟩)) "Less").run Try.prog w = .ok (134, v) w := by
  have e : (isAgg 106).run Try.prog w = .ok false w := by rfl
  show (loadVar 106 ⟨p, 0, none⟩ >>= fun x => pure ((134 : FuncId), x)).run Try.prog w = _
  unfold loadVar
  simp [Sem.run_bind, e, Result.andThen, h]
theorem meth_len (p : Nat) (v : Value) (w : World) (h : w.cell? ⟨p, 0, none⟩ = some v) : (method 276 113 (.pointer (some ⟨p, 0, none⟩)) "Len").run Try.prog w = .ok (133, v) w := by
  have e : (isAgg 106).run Try.prog w = .ok false w := by rfl
  show (loadVar 106 ⟨p, 0, none⟩ >>= fun x => pure ((133 : FuncId), x)).run Try.prog w = _
  unfold loadVar
  simp [Sem.run_bind, e, Result.andThen, h]
theorem meth_swap (p : Nat) (v : Value) (w : World) (h : w.cell? ⟨p, 0, none⟩ = some v) : (method 276 113 (.pointer (some ⟨p, 0, none⟩)) "Swap").run Try.prog w = .ok (135, v) w := by
  have e : (isAgg 106).run Try.prog w = .ok false w := by rfl
  show (loadVar 106 ⟨p, 0, none⟩ >>= fun x => pure ((135 : FuncId), x)).run Try.prog w = _
  unfold loadVar
  simp [Sem.run_bind, e, Result.andThen, h]
theorem meth_pop (p : Nat) (w : World) : (method 276 113 (.pointer (some ⟨p, 0, none⟩)) "Pop").run Try.prog w = .ok (136, .pointer (some ⟨p, 0, none⟩)) w := by rfl
theorem meth_push (p : Nat) (w : World) : (method 276 113 (.pointer (some ⟨p, 0, none⟩)) "Push").run Try.prog w = .ok (137, .pointer (some ⟨p, 0, none⟩)) w := by rfl
theorem wlen_any (h : WR w p u v xs) : Calls Try.prog 133 #[v] w fun e w' => e = .returned (.int .i64 (xs.length : Nat)) ∧ w = w' := by
  obtain ⟨A, c, rfl, hc⟩ := h.slice
  clear h
  go_enter Try.func133, Try.ntmps133
  go_wp2
  go_ret
  exact ⟨rfl, rfl⟩
theorem wless_any (h : WR w p u v xs) (i j : Nat) (hi : i < xs.length) (hj : j < xs.length) : Calls Try.prog 134 #[v, .int .i64 (i : Int), .int .i64 (j : Int)] w fun e w' => e = .returned (.bool (lessI (el z0 xs i) (el z0 xs j))) ∧ ∃ n, w' = w.drewN n := by
  obtain ⟨ad, c, rfl, hc, q1⟩ := h.cell i hi
  obtain ⟨ad2, c2, e2, hc2, q2⟩ := h.cell j hj
  injection e2 with e2 e3 e4
  injection e2 with e2
  subst e2
  clear e3 e4 hc2
  have a1 := h.k1 i hi
  have a2 := h.k1 j hj
  have b1 := h.k0 i hi
  have b2 := h.k0 j hj
  clear h
  generalize hx : el z0 xs i = X at *
  generalize hy : el z0 xs j = Y at *
  obtain ⟨x, kx, tx⟩ := X
  obtain ⟨y, ky, ty⟩ := Y
  clear hx hy
  simp only [ptr] at q1 q2 a1 a2 b1 b2
  rw [show lessI (x, kx, tx) (y, ky, ty) = (decide (tx < ty) || (decide (tx = ty) && bl kx ky)) from rfl]
  unfold bl
  by_cases h1 : tx < ty
  · have g1 : decide (tx < ty) = true := decide_eq_true h1
    rw [g1]
    clear h1
    go_enter Try.func134, Try.ntmps134
    go_wp2
    go_quiet (fail)
    go_wp2
    go_ret
    exact ⟨rfl, _, rfl⟩
  · have g1 : decide (tx < ty) = false := decide_eq_false h1
    by_cases h2 : tx = ty
    · subst h2
      have g2 : (tx == tx) = true := by simp
      rw [g1, decide_eq_true rfl]
      clear h1
      go_enter Try.func134, Try.ntmps134
      go_wp2
      go_quiet (fail)
      go_wp2
      go_ret
      exact ⟨by simp, _, rfl⟩
    · have g2 : (tx == ty) = false := by simpa using h2
      rw [g1, decide_eq_false h2]
      clear h1 h2
      go_enter Try.func134, Try.ntmps134
      go_wp2
      go_quiet (fail)
      go_wp2
      go_ret
      exact ⟨rfl, _, rfl⟩
end
end Go.Proofs.Ytjgoddieamphpaa.Wh
