/- A part of the proof. -/
import Derived.Test.YtjgoddieamphpaaOWD
import Derived.Maps.AppendAt
namespace Go.Proofs.Ytjgoddieamphpaa.Wh
open Go.RowKit Go.Sort Go.Proofs.YtjgoddieamphpaaW.PrintWords Go.Proofs.YtjgoddieamphpaaW.PrintLast Heap Go.Proofs.Ytjgoddieamphpaa.Obj
set_option maxRecDepth 100000
set_option linter.unusedVariables false
theorem info_ptr : (Try.prog.info? 109).map (fun i => (i.zero, i.size, i.bytes)) = some (some (.pointer none), 1, 8) := by kernel_rfl
/-- The row cut short by its last. -/
theorem row_cut {w : World} {g n cap : Nat} {vs : List Value} (h : w.ownsRow 0 109 1 (.slice (some ⟨g, 0, none⟩) n cap) n vs) (m : Nat) (hm : m ≤ n) : w.ownsRow 0 109 1 (.slice (some ⟨g, 0, none⟩) m cap) m (vs.take m) := by
  obtain ⟨hl, ⟨e, _⟩ | ⟨g', cap', cur, e, h0, hb, q1, q2, q3, q4⟩⟩ := h
  · cases e
  · injection e with e1 e2 e3
    injection e1 with e1
    injection e1 with e1
    subst e1; subst e3
    refine ⟨by rw [List.length_take]; omega, .inr ⟨g, cap, cur, rfl, h0, hb, by omega, q2, q3, ?_⟩⟩
    rw [← q4, List.take_take]
    congr 1
    omega
theorem row_frmW {w w1 : World} {v : Value} {n : Nat} {vs : List Value} (h : w.ownsRow 0 109 1 v n vs) (hb : ∀ g, some g = v.ownBlock → w1.heap[g]? = w.heap[g]?) : w1.ownsRow 0 109 1 v n vs := by
  obtain ⟨hl, ⟨e, e0⟩ | ⟨g', cap', cur, e, h0, hb', q⟩⟩ := h
  · exact ⟨hl, .inl ⟨e, e0⟩⟩
  · subst e
    exact ⟨hl, .inr ⟨g', cap', cur, rfl, h0, (hb g' rfl).trans hb', q⟩⟩
theorem row_blk {w : World} {v : Value} {n : Nat} {vs : List Value} (h : w.ownsRow 0 109 1 v n vs) {g : Nat} (hg : some g = v.ownBlock) : ∃ cs, w.heap[g]? = some (.cells cs 109 (0, 0)) := by
  obtain ⟨hl, ⟨e, e0⟩ | ⟨g', cap', cur, e, h0, hb', q⟩⟩ := h
  · subst e; cases hg
  · subst e
    injection hg with hg
    subst hg
    exact ⟨_, hb'⟩
theorem el_take (xs : List It) (m k : Nat) (hk : k < m) : el z0 (xs.take m) k = el z0 xs k := by
  unfold el; rw [List.getD_eq_getElem?_getD, List.getD_eq_getElem?_getD, List.getElem?_take_of_lt hk]
theorem wpop_any {w : World} {p m : Nat} {u v : Value} {xs : List It} (h : WR w p u v xs) (hm : xs.length = m + 1) :
    Calls Try.prog 136 #[.pointer (some ⟨p, 0, none⟩)] w fun e w' => (∃ r, e = .returned r) ∧ ∃ v', WR w' p u v' (xs.take m) ∧ v'.ownBlock = v.ownBlock ∧ Frm (fun b => b = p) w w' := by
  obtain ⟨g, cap, cur, rfl, hg, hc, hr⟩ := h.open_ (by omega)
  have c0 := h.c0
  have f0 := blk_frozen h.hd 0
  have r0 : w.cell? ⟨g, m, none⟩ = some (ptr (el z0 xs m).1) := (blk_cell hg m).trans (hr m (by omega))
  have e1 : (Addr.add ⟨g, 0, none⟩ m) = ⟨g, m, none⟩ := by simp [Addr.add]; omega
  have e2 : ((m + 1 : Nat) : Int) - 1 = (m : Int) := by omega
  have hmb : m ≤ 10000 := by have := h.few; omega
  have H := Lib.hid h
  clear h hr hg
  rw [hm] at c0 hc ⊢
  simp only [ptr] at r0
  generalize hq : (el z0 xs m).1 = q at *
  clear hq
  go_enter Try.func136, Try.ntmps136
  go_wp2

  go_ret
  have hf : Frm (fun b => b = p) w (w.setCell ⟨p, 0, none⟩ (.slice (some ⟨g, 0, none⟩) m cap)) := (Frm.refl (fun b => b = p) w).setCell (p := ⟨p, 0, none⟩) (.inl rfl) _
  refine ⟨⟨_, rfl⟩, _, ⟨blk_put H.out.hd 0 _ rfl, ?_, fun k hk => ?_, ?_, ?_⟩, rfl, hf⟩
  · have h0 := H.out.row
    rw [hm] at h0
    have h1 := row_cut h0 m (by omega)
    rw [← List.map_take] at h1
    rw [List.length_take, Nat.min_eq_left (by omega)]
    refine row_frmW h1 (fun b hb => ?_)
    obtain ⟨cs, hcs⟩ := row_blk h1 hb
    exact Below.heap_setCell _ _ _ _ (blk_ne hcs H.out.hd (by decide))
  · rw [List.length_take] at hk
    rw [el_take xs m k (by omega)]
    exact blk_far (H.out.it k (by omega)) (blk_ne (H.out.it k (by omega)) H.out.hd (by decide)) _
  · rw [List.map_take]; exact H.out.bn.sublist (List.take_sublist _ _)
  · have := H.out.few; rw [List.length_take]; omega
/-- A row with one item more behind it. -/
theorem WR.pushed {w w3 : World} {p : Nat} {u v v' : Value} {xs : List It} {x : It} (h : WR w p u v xs) (hx : x.1 ∉ xs.map (·.1)) (hf : xs.length < 10000)
    (hd : w3.heap[p]? = some (.cells #[v', u] 108 (0, 0))) (hr : w3.ownsRow 0 109 1 v' (xs.length + 1) (xs.map (fun x => ptr x.1) ++ [ptr x.1])) (hq : w3.heap[x.1]? = some (.cells #[.string x.2.1, .int .i64 x.2.2, .int .i64 (xs.length : Nat)] 111 (0, 0)))
    (hF : ∀ k, k < xs.length → w3.heap[(el z0 xs k).1]? = w.heap[(el z0 xs k).1]?) : WR w3 p u v' (xs ++ [x]) := by
  refine ⟨hd, ?_, fun k hk => ?_, ?_, by simp; omega⟩
  · rw [List.length_append, List.map_append]; exact hr
  · rw [List.length_append] at hk
    have hk : k < xs.length + 1 := hk
    rw [el_app]
    by_cases e : k < xs.length
    · rw [if_pos e, hF k e]; exact h.it k e
    · have : k = xs.length := by omega
      subst this
      rw [if_neg e, if_pos rfl]; exact hq
  · rw [List.map_append]
    refine List.nodup_append.2 ⟨h.bn, by simp, fun a ha b hb => ?_⟩
    have hb : b = x.1 := by simpa using hb
    subst hb
    exact fun e => hx (e ▸ ha)
theorem grown_blk {w w3 : World} {o : Obj} {row : Option Nat} {b : Nat} {X : Obj} (h : (w.alloc o).grownBy w3 row) (hb : w.heap[b]? = some X) (hne : some b ≠ row) : w3.heap[b]? = some X := by
  have hlt := blk_lt hb
  rw [h.block b (by simp; omega) hne]
  exact (Below.heap_alloc _ _ _ hlt).trans hb
theorem row_ne {w : World} {v : Value} {n : Nat} {vs : List Value} {p t : Nat} {cs : Array Value} (h : w.ownsRow 0 109 1 v n vs) (hp : w.heap[p]? = some (.cells cs t (0, 0))) (ht : t ≠ 109) : some p ≠ v.ownBlock := fun e => by
  obtain ⟨cs', hb⟩ := row_blk h e
  exact blk_ne hp hb ht rfl
theorem row_slice {w : World} {v : Value} {n : Nat} {vs : List Value} (h : w.ownsRow 0 109 1 v n vs) : ∃ A c, v = .slice A n c := by
  obtain ⟨hl, ⟨e, e0⟩ | ⟨g', cap', cur, e, _⟩⟩ := h
  · exact ⟨none, 0, by rw [e, e0]⟩
  · exact ⟨_, _, e⟩
theorem wpush_any {w : World} {p q : Nat} {u v : Value} {xs : List It} {k : ByteArray} {t z : Int} (h : WR w p u v xs) (hq : w.heap[q]? = some (.cells #[.string k, .int .i64 t, .int .i64 z] 111 (0, 0))) (hn : q ∉ xs.map (·.1)) (hf : xs.length < 10000) :
    Calls Try.prog 137 #[.pointer (some ⟨p, 0, none⟩), .iface 109 (.pointer (some ⟨q, 0, none⟩))] w fun e w' => e = .returned (.tuple #[]) ∧ ∃ v', WR w' p u v' (xs ++ [(q, k, t)]) ∧ (∀ b, some b = v'.ownBlock → some b = v.ownBlock ∨ w.heap.size ≤ b) ∧ Frm (fun b => b = p ∨ b = q ∨ some b = v.ownBlock) w w' := by
  obtain ⟨A, c, rfl, hc⟩ := h.slice
  have c0 := h.c0
  have f0 := blk_frozen h.hd 0
  have f2 := blk_frozen hq 2
  have d2 : w.cell? ⟨q, 2, none⟩ = some (.int .i64 z) := (blk_cell hq 2).trans rfl
  have hqp : q ≠ p := blk_ne hq h.hd (by decide)
  obtain ⟨i0, hi, hz0, hz1, hz2⟩ := info_parts info_ptr
  have hlen := h.few
  have H := Lib.hid h
  have HQ := Lib.hid hq
  clear h hq
  have hta : ∀ w : World, (Instr.typeAssert (.iface 109 (.pointer (some ⟨q, 0, none⟩))) 20 109 false).run Try.prog w = .ok (.pointer (some ⟨q, 0, none⟩)) w := fun _ => by rfl
  go_enter Try.func137, Try.ntmps137
  go_upto_region 2 with (fail)
  obtain ⟨w2, hw2⟩ : ∃ w2, w2 = w.setCell ⟨q, 2, none⟩ (.int .i64 (xs.length : Nat)) := ⟨_, rfl⟩
  rw [← hw2]
  have hp2 : w2.heap[p]? = some (.cells #[.slice A xs.length c, u] 108 (0, 0)) := by rw [hw2]; exact blk_far H.out.hd (Ne.symm hqp) _
  have hq2 : w2.heap[q]? = some (.cells #[.string k, .int .i64 t, .int .i64 (xs.length : Nat)] 111 (0, 0)) := by rw [hw2]; exact blk_put HQ.out 2 _ rfl
  have hr2 : w2.ownsRow 0 109 1 (.slice A xs.length c) xs.length (xs.map fun x => ptr x.1) := by
    rw [hw2]
    refine row_frmW H.out.row (fun b hb => ?_)
    obtain ⟨cs, hcs⟩ := row_blk H.out.row hb
    exact Below.heap_setCell _ _ _ _ (blk_ne hcs HQ.out (by decide))
  have hi2 : ∀ j, j < xs.length → w2.heap[(el z0 xs j).1]? = w.heap[(el z0 xs j).1]? := fun j hj => by
    rw [hw2]
    refine Below.heap_setCell _ _ _ _ (fun e => hn ?_)
    have e' : (el z0 xs j).1 = q := e
    rw [← e']
    exact List.mem_map.2 ⟨_, el_mem xs j hj, rfl⟩
  have hs2 : w2.heap.size = w.heap.size := by rw [hw2]; simp [World.setCell]
  have hf2 : Frm (fun b => b = p ∨ b = q ∨ some b = (Value.slice A xs.length c).ownBlock) w w2 := by rw [hw2]; exact (Frm.refl (fun b => b = p ∨ b = q ∨ some b = (Value.slice A xs.length c).ownBlock) w).setCell (p := ⟨q, 2, none⟩) (.inl (.inr (.inl rfl))) _
  have c2 : w2.cell? ⟨p, 0, none⟩ = some (.slice A xs.length c) := (blk_cell hp2 0).trans rfl
  have HF2 := Lib.hid hf2
  have HR2 := Aside0.mk hr2
  have HI2 := Lib.hid hi2
  have HQ2 := Lib.hid hq2
  have HP2 := Lib.hid hp2
  have HS2 := Lib.hid hs2
  clear hw2 hf2 hr2 hi2 hq2 hs2 hp2 c0 f0 d2 f2
  go_wp2_with (first | (at_builtin; refine wpList_append_own_at _ rfl _ _ 106 rfl 0 109 i0 (.pointer none) 1 8 Try.underlying106 hi hz0 hz1 hz2 rfl (by decide) _ _ _ rfl (HR2.out.alloc _) ⟨w2.heap.size, 0, none⟩ 1 1 [.pointer (some ⟨q, 0, none⟩)] rfl rfl (cell_one_new _ _ _) (by intro u hu; obtain rfl := List.mem_singleton.1 hu; rfl) (by unfold maxLen; omega) (by omega) (Nat.zero_le _) ?_; intro v' w3 hown' hgrow hnil hloc; obtain ⟨A4, c4, e4⟩ := row_slice hown'; subst e4; have HP3 := Lib.hid (grown_blk hgrow HP2.out (row_ne HR2.out HP2.out (by decide))); have c3 := (blk_cell HP3.out 0).trans rfl; have f3 := blk_frozen HP3.out 0; have HO := Aside0.mk hown'; have HG := Aside0.mk hgrow; have HL := Aside0.mk hloc; clear hown' hgrow hnil hloc))
  go_end0
  have hO := HO.out
  have hG := HG.out
  have hpv : some p ≠ (Value.slice A4 (xs.length + 1) c4).ownBlock := row_ne hO HP3.out (by decide)
  refine ⟨rfl, _, H.out.pushed hn hf (blk_put HP3.out 0 _ rfl) (row_frmW (by simpa [ptr] using hO) (fun b hb => Below.heap_setCell _ _ _ _ (fun e => hpv (by rw [← hb]; exact congrArg some e.symm)))) ?_ ?_, ?_, ?_⟩
  · exact blk_far (grown_blk hG HQ2.out (row_ne HR2.out HQ2.out (by decide))) hqp _
  · intro j hj
    have h1 := HI2.out j hj
    have h2 := H.out.it j hj
    rw [h2] at h1
    rw [h2]
    exact blk_far (grown_blk hG h1 (row_ne HR2.out h1 (by decide))) (blk_ne h2 H.out.hd (by decide)) _
  · intro b hb
    rcases HL.out with e | e
    · rw [e] at hb; exact .inl hb
    · rw [e] at hb
      injection hb with hb
      refine .inr ?_
      subst hb
      simp [HS2.out]
  · have hg : Frm (fun j => some j = (Value.slice A xs.length c).ownBlock) (w2.alloc (.cells #[.pointer (some ⟨q, 0, none⟩)] 109)) w3 := ⟨hG.os, hG.tape, hG.output, hG.size, fun j hj hn => hG.block j hj hn⟩
    exact (((HF2.out.alloc _).then hg (fun i _ hi => .inr (.inr hi))).setCell (p := ⟨p, 0, none⟩) (.inl (.inl rfl)) _)
end Go.Proofs.Ytjgoddieamphpaa.Wh
