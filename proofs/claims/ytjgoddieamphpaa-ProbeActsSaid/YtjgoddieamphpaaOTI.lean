/- probe.New[int]; a table while a key is dropped. -/
import Derived.Test.YtjgoddieamphpaaOTH
import Derived.Deep.QuietTactic
import Derived.BigQuiet
namespace Go.Proofs.Ytjgoddieamphpaa.Obj
open Go.RowKit Go.Proofs.YtjgoddieamphpaaW.PrintWords Go.Proofs.YtjgoddieamphpaaW.PrintLast Probe
set_option maxRecDepth 100000
set_option linter.unusedVariables false
theorem slotN_lt' (n : Nat) (hn : 1 ≤ n) (k : ByteArray) : slotN k (2 * n) < 2 * n := slotN_lt k _ (by omega)
theorem tab_new {α : Type} {enc : α → Value} {zv : Value} {T S : Nat} (n : Nat) (hn : 1 ≤ n) (hN : n ≤ 4096) (w : World) :
    Tab enc zv T S ((w.alloc (.cells (flat enc zv (List.replicate (2 * n) none)).toArray S)).alloc (.cells #[.int .i64 n, .int .i64 0, .slice (some ⟨w.heap.size, 0, none⟩) (2 * n) (2 * n)] T)) (w.heap.size + 1) w.heap.size n (List.replicate (2 * n) none) :=
  ⟨by rw [items_none]; have := blk_new (w.alloc (.cells (flat enc zv (List.replicate (2 * n) none)).toArray S)) (.cells #[.int .i64 n, .int .i64 0, .slice (some ⟨w.heap.size, 0, none⟩) (2 * n) (2 * n)] T); rw [show (w.alloc (.cells (flat enc zv (List.replicate (2 * n) none)).toArray S)).heap.size = w.heap.size + 1 by simp] at this; exact this,
   blk_alloc (blk_new w _) _, WF.none _ _ (slotN_lt' n hn), by rw [items_none]; simp, hn, hN, by rw [items_none]; simp⟩
/-- The row of slots while a key is dropped: the hole is at f; e steps behind it have been looked at; z is free. -/
structure Drp {α : Type} (enc : α → Value) (zv : Value) (T S : Nat) (w0 w : World) (p b most many : Nat) (C : List (Ent α)) (sl : List (Option (Ent α))) (f e z : Nat) : Prop where
  hd : w.heap[p]? = some (.cells #[.int .i64 most, .int .i64 many, .slice (some ⟨b, 0, none⟩) (2 * most) (2 * most)] T (0, 0))
  bk : w.heap[b]? = some (.cells (flat enc zv sl).toArray S (0, 0))
  hole : Hole (fun k => slotN k (2 * most)) (2 * most) sl f e
  perm : (items (sl.set f none)).Perm C
  room : C.length + 1 < 2 * most
  zN : z < 2 * most
  zf : at_ sl z = none
  ff : ∃ x, at_ sl f = some x
  keys : ∀ i x, at_ sl i = some x → x.1.size ≤ 9223372036854775807
  frm : Frm (fun k => k = p ∨ k = b) w0 w
section
variable {α : Type} {enc : α → Value} {zv : Value} {T S : Nat} {w0 w w1 : World} {p b most many : Nat} {C : List (Ent α)} {sl : List (Option (Ent α))} {f e z : Nat}
theorem Drp.e_lt (h : Drp enc zv T S w0 w p b most many C sl f e z) : e < 2 * most := h.hole.e_lt (by rw [h.perm.length_eq]; exact h.room)
theorem Drp.iN (h : Drp enc zv T S w0 w p b most many C sl f e z) : cyc (2 * most) (f + e) < 2 * most := cyc_lt (by have := h.e_lt; have := h.hole.fN; omega)
theorem Drp.c2 (h : Drp enc zv T S w0 w p b most many C sl f e z) : w.cell? ⟨p, 2, none⟩ = some (.slice (some ⟨b, 0, none⟩) (2 * most) (2 * most)) := (blk_cell h.hd 2).trans rfl
theorem Drp.c1 (h : Drp enc zv T S w0 w p b most many C sl f e z) : w.cell? ⟨p, 1, none⟩ = some (.int .i64 many) := (blk_cell h.hd 1).trans rfl
theorem Drp.cell (h : Drp enc zv T S w0 w p b most many C sl f e z) (i j : Nat) (hi : i < 2 * most) (hj : j < 3) : w.cell? ⟨b, i * 3 + j, none⟩ = (c3 enc zv (at_ sl i))[j]? := by
  rw [blk_cell h.bk, List.getElem?_toArray, flat_get _ _ _ _ _ (by rw [h.hole.len]; exact hi) hj]
theorem Drp.none_at (h : Drp enc zv T S w0 w p b most many C sl f e z) {i : Nat} (hi : i < 2 * most) (e : at_ sl i = none) : w.cell? ⟨b, i * 3, none⟩ = some (.bool false) := by
  have a := h.cell i 0 hi (by omega)
  rw [e] at a
  exact a
theorem Drp.some_at (h : Drp enc zv T S w0 w p b most many C sl f e z) {i : Nat} (hi : i < 2 * most) {k : ByteArray} {v : α} (e : at_ sl i = some (k, v)) : w.cell? ⟨b, i * 3, none⟩ = some (.bool true) ∧ w.cell? ⟨b, i * 3 + 1, none⟩ = some (.string k) ∧ w.cell? ⟨b, i * 3 + 2, none⟩ = some (enc v) := by
  have a := h.cell i 0 hi (by omega); have b := h.cell i 1 hi (by omega); have c := h.cell i 2 hi (by omega)
  rw [e] at a b c
  exact ⟨a, b, c⟩
theorem Drp.old_at (h : Drp enc zv T S w0 w p b most many C sl f e z) : ∃ a0 a1 a2, w.cell? ⟨b, f * 3, none⟩ = some a0 ∧ w.cell? ⟨b, f * 3 + 1, none⟩ = some a1 ∧ w.cell? ⟨b, f * 3 + 2, none⟩ = some a2 := by
  obtain ⟨⟨k, v⟩, hx⟩ := h.ff
  obtain ⟨a, b, c⟩ := h.some_at h.hole.fN hx
  exact ⟨_, _, _, a, b, c⟩
theorem Drp.move_w (h : Drp enc zv T S w0 w p b most many C sl f e z) (hp : w1.heap = w.heap) (hf : Frm (fun k => k = p ∨ k = b) w w1) : Drp enc zv T S w0 w1 p b most many C sl f e z :=
  ⟨by rw [hp]; exact h.hd, by rw [hp]; exact h.bk, h.hole, h.perm, h.room, h.zN, h.zf, h.ff, h.keys, h.frm.trans hf⟩
theorem Drp.drewN (h : Drp enc zv T S w0 w p b most many C sl f e z) (n : Nat) : Drp enc zv T S w0 (w.drewN n) p b most many C sl f e z := h.move_w rfl ((Frm.refl _ _).drewN n)
theorem Drp.stay (h : Drp enc zv T S w0 w p b most many C sl f e z) {k : ByteArray} {v : α} (hs : at_ sl (cyc (2 * most) (f + e)) = some (k, v)) (hd : dist (2 * most) (slotN k (2 * most)) (cyc (2 * most) (f + e)) < e) : Drp enc zv T S w0 w p b most many C sl f (e + 1) z :=
  ⟨h.hd, h.bk, h.hole.stay h.e_lt hs hd, h.perm, h.room, h.zN, h.zf, h.ff, h.keys, h.frm⟩
theorem Drp.shift (h : Drp enc zv T S w0 w p b most many C sl f e z) (hT : T ≠ S) {k : ByteArray} {v : α} (hs : at_ sl (cyc (2 * most) (f + e)) = some (k, v)) (hd : e ≤ dist (2 * most) (slotN k (2 * most)) (cyc (2 * most) (f + e)))
    (hw : w1.heap = (((w.setCell ⟨b, f * 3, none⟩ (.bool true)).setCell ⟨b, f * 3 + 1, none⟩ (.string k)).setCell ⟨b, f * 3 + 2, none⟩ (enc v)).heap) (hfr : Frm (fun k => k = p ∨ k = b) w w1) :
    Drp enc zv T S w0 w1 p b most many C (sl.set f (some (k, v))) (cyc (2 * most) (f + e)) 1 z := by
  obtain ⟨m1, m2⟩ := h.hole.move h.e_lt hs hd
  have hne : p ≠ b := blk_ne h.hd h.bk hT
  have hfl : f < sl.length := by rw [h.hole.len]; exact h.hole.fN
  have hfi : f ≠ cyc (2 * most) (f + e) := by
    have := h.hole.e1; have := h.e_lt; have := h.hole.fN
    unfold cyc; split <;> omega
  refine ⟨by rw [hw]; exact blk_far (blk_far (blk_far h.hd hne _) hne _) hne _, by rw [hw]; exact blk_flat h.bk f (some (k, v)) _ _ _ rfl hfl, m1, m2.trans h.perm, h.room, h.zN, ?_, ⟨(k, v), ?_⟩, ?_, h.frm.trans hfr⟩
  · rw [at_set _ _ _ _ hfl, if_neg]; exact h.zf
    rintro rfl
    obtain ⟨x, hx⟩ := h.ff
    rw [h.zf] at hx; cases hx
  · rw [at_set _ _ _ _ hfl, if_neg hfi]; exact hs
  · intro i x hx
    rw [at_set _ _ _ _ hfl] at hx
    split at hx
    · obtain rfl := Option.some.inj hx; exact h.keys _ _ hs
    · exact h.keys i x hx
theorem Drp.done (h : Drp enc zv T S w0 w p b most many C sl f e z) (hT : T ≠ S) (hs : at_ sl (cyc (2 * most) (f + e)) = none) (hmany : many = C.length + 1) (hpos : 1 ≤ most) (hbig : most ≤ 4096) (hr : C.length ≤ most)
    (hw : w1.heap = (((w.setCell ⟨b, f * 3, none⟩ (.bool false)).setCell ⟨b, f * 3 + 1, none⟩ (.string ⟨#[]⟩)).setCell ⟨b, f * 3 + 2, none⟩ zv).heap) (c : Int) (hc : c = (many : Int) - 1) :
    Tab enc zv T S (w1.setCell ⟨p, 1, none⟩ (.int .i64 c)) p b most (sl.set f none) := by
  have hne : p ≠ b := blk_ne h.hd h.bk hT
  have hfl : f < sl.length := by rw [h.hole.len]; exact h.hole.fN
  have h1 : w1.heap[p]? = some (.cells #[.int .i64 most, .int .i64 many, .slice (some ⟨b, 0, none⟩) (2 * most) (2 * most)] T (0, 0)) := by rw [hw]; exact blk_far (blk_far (blk_far h.hd hne _) hne _) hne _
  have h2 : w1.heap[b]? = some (.cells (flat enc zv (sl.set f none)).toArray S (0, 0)) := by rw [hw]; exact blk_flat h.bk f none _ _ _ rfl hfl
  have hcl : c = ((items (sl.set f none)).length : Nat) := by rw [h.perm.length_eq]; omega
  refine ⟨by rw [← hcl]; exact blk_put h1 1 _ rfl, blk_far h2 (Ne.symm hne) _, h.hole.done h.e_lt hs, by rw [h.perm.length_eq]; exact hr, hpos, hbig, ?_⟩
  intro x hx
  obtain ⟨i, hi, he⟩ := (mem_items _ _).1 hx
  rw [at_set _ _ _ _ hfl] at he
  split at he
  · cases he
  · exact h.keys i x he
end
theorem c_drewN {w : World} {a : Addr} {v : Value} (h : w.cell? a = some v) (n : Nat) : (w.drewN n).cell? a = some v := (World.cell?_of_block (w := w) (w' := w.drewN n) rfl).trans h
theorem iinfo_slot : (Try.prog.info? 103).map (fun i => (i.zero, i.size, i.bytes)) = some (some (.agg #[.bool false, .string ⟨#[]⟩, .int .i64 0]), 3, 32) := by kernel_rfl
theorem imake_run (n : Nat) (hn : n ≤ 10000) (W : World) : (Instr.makeSlice 99 (.int .i64 (n : Int)) (.int .i64 (n : Int))).run Try.prog W = .ok (.slice (some ⟨W.heap.size, 0, none⟩) n n) (W.alloc (.cells (flat (Value.int .i64) (.int .i64 0) (List.replicate n (none : Option (Ent Int)))).toArray 103)) := by
  obtain ⟨i0, hi, hz⟩ := Option.map_eq_some_iff.1 iinfo_slot
  simp only [Prod.mk.injEq] at hz
  obtain ⟨hz0, hz1, hz2⟩ := hz
  have := run_make (P := Try.prog) W 99 103 i0 _ Try.underlying99 hi hz0 .i64 .i64 (n : Int) (n : Int) (by omega) (by omega) (by rw [hz2]; omega) (by omega)
  rw [this, hz1, Int.toNat_natCast]
  show _ = Result.ok _ (W.alloc (.cells _ 103))
  rw [← made_flat]
  rfl
theorem inew_any (n : Nat) (hn : 1 ≤ n) (hN : n ≤ 4096) (w : World) :
    Calls Try.prog 20 #[.int .i64 (n : Int)] w fun e w' => ∃ p b, e = .returned (.tuple #[.pointer (some ⟨p, 0, none⟩), .int .i64 0]) ∧ TabI w' p b n (List.replicate (2 * n) none) ∧ w.heap.size ≤ p ∧ w.heap.size ≤ b ∧ Frm (fun _ => False) w w' := by
  have c1 : decide ((n : Int) < 1) = false := decide_eq_false (by omega)
  have c1' : decide (n < 1) = false := decide_eq_false (by omega)
  have c2 : decide ((4096 : Int) < (n : Int)) = false := decide_eq_false (by omega)
  have c3 : decide (4096 < n) = false := decide_eq_false (by omega)
  have hmk := imake_run (2 * n) (by omega)
  have e2 : ((2 * n : Nat) : Int) = 2 * (n : Int) := by omega
  rw [e2] at hmk
  clear e2
  go_enter Try.func20, Try.ntmps20
  go_wp2
  go_ret2
  exact ⟨w.heap.size + 1, w.heap.size, rfl, tab_new n hn hN w, by omega, Nat.le_refl _, ((Frm.refl _ _).alloc _).alloc _⟩
theorem inew_bad (n : Int) (h : n < 1 ∨ 4096 < n) (w : World) :
    Calls Try.prog 20 #[.int .i64 n] w fun e w' => e = .returned (.tuple #[.pointer none, .int .i64 1]) ∧ w = w' := by
  by_cases h1 : n < 1
  · have c1 : decide (n < 1) = true := decide_eq_true h1
    go_enter Try.func20, Try.ntmps20
    go_wp2
    go_ret2
    exact ⟨rfl, rfl⟩
  · have c1 : decide (n < 1) = false := decide_eq_false h1
    have c2 : decide (4096 < n) = true := decide_eq_true (by omega)
    go_enter Try.func20, Try.ntmps20
    go_wp2
    go_ret2
    exact ⟨rfl, rfl⟩

end Go.Proofs.Ytjgoddieamphpaa.Obj
