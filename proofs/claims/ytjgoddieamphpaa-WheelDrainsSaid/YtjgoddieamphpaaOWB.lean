/- A part of the proof. -/
import Derived.Test.YtjgoddieamphpaaOWA
import Derived.Deep.RegionWith
namespace Go.Proofs.Ytjgoddieamphpaa.Wh
open Go.RowKit Go.Sort Go.Proofs.YtjgoddieamphpaaW.PrintWords Go.Proofs.YtjgoddieamphpaaW.PrintLast Heap Go.Proofs.Ytjgoddieamphpaa.Obj
set_option maxRecDepth 100000
set_option linter.unusedVariables false
theorem swap_walk {w : World} {g cap n i j qi qj : Nat} {cur ci cj : Array Value} (hg : w.heap[g]? = some (.cells cur 109 (0, 0))) (hn : n ≤ cap) (hi : i < n) (hj : j < n) (hij : i ≠ j) (h1 : cur[i]? = some (ptr qi)) (h2 : cur[j]? = some (ptr qj))
    (hqi : w.heap[qi]? = some (.cells ci 111 (0, 0))) (hqj : w.heap[qj]? = some (.cells cj 111 (0, 0))) (hci : ci.size = 3) (hcj : cj.size = 3) (hq : qi ≠ qj) :
    Calls Try.prog 135 #[.slice (some ⟨g, 0, none⟩) n cap, .int .i64 (i : Int), .int .i64 (j : Int)] w fun e w' => e = .returned (.tuple #[]) ∧
      w'.heap[g]? = some (.cells ((cur.set! i (ptr qj)).set! j (ptr qi)) 109 (0, 0)) ∧ w'.heap[qi]? = some (.cells (ci.set! 2 (.int .i64 (j : Int))) 111 (0, 0)) ∧ w'.heap[qj]? = some (.cells (cj.set! 2 (.int .i64 (i : Int))) 111 (0, 0)) ∧ Frm (fun b => b = g ∨ b = qi ∨ b = qj) w w' := by
  have r1 : w.cell? ⟨g, i, none⟩ = some (ptr qi) := (blk_cell hg i).trans h1
  have r2 : w.cell? ⟨g, j, none⟩ = some (ptr qj) := (blk_cell hg j).trans h2
  have f1 := blk_frozen hg i
  have f2 := blk_frozen hg j
  have e1 : (Addr.add ⟨g, 0, none⟩ i) = ⟨g, i, none⟩ := by simp [Addr.add]; omega
  have e2 : (Addr.add ⟨g, 0, none⟩ j) = ⟨g, j, none⟩ := by simp [Addr.add]; omega
  simp only [ptr] at r1 r2
  have hgi : qi ≠ g := blk_ne hqi hg (by decide)
  have hgj : qj ≠ g := blk_ne hqj hg (by decide)
  have HG := Lib.hid hg
  go_enter Try.func135, Try.ntmps135
  go_wp2_with fail
  go_region
  obtain ⟨w2, hw2⟩ : ∃ w2, w2 = ((w.setCell ⟨g, i, none⟩ (.pointer (some ⟨qj, 0, none⟩))).setCell ⟨g, j, none⟩ (.pointer (some ⟨qi, 0, none⟩))).drew := ⟨_, rfl⟩
  rw [← hw2]
  have b1 : w2.heap[g]? = some (.cells ((cur.setIfInBounds i (ptr qj)).setIfInBounds j (ptr qi)) 109 (0, 0)) := by
    rw [hw2]; exact blk_drewN (blk_put (blk_put hg i _ rfl) j _ rfl) 1
  have b2 : w2.heap[qi]? = some (.cells ci 111 (0, 0)) := by
    rw [hw2]; exact blk_drewN (blk_far (blk_far hqi hgi _) hgi _) 1
  have b3 : w2.heap[qj]? = some (.cells cj 111 (0, 0)) := by
    rw [hw2]; exact blk_drewN (blk_far (blk_far hqj hgj _) hgj _) 1
  have hf2 : Frm (fun b => b = g ∨ b = qi ∨ b = qj) w w2 := by
    rw [hw2]; exact (((Frm.refl _ w).setCell (.inl (.inl rfl)) _).setCell (.inl (.inl rfl)) _).drew
  have HF2 := Lib.hid hf2
  have HB1 := Lib.hid b1
  have HB2 := Lib.hid b2
  have HB3 := Lib.hid b3
  have hi2 : i < cur.size := (Array.getElem?_eq_some_iff.1 h1).1
  have hj2 : j < cur.size := (Array.getElem?_eq_some_iff.1 h2).1
  have s1 : w2.cell? ⟨g, i, none⟩ = some (ptr qj) := (blk_cell b1 i).trans (by rw [Array.getElem?_setIfInBounds, if_neg (Ne.symm hij), Array.getElem?_setIfInBounds, if_pos rfl]; simp [hi2])
  have s2 : w2.cell? ⟨g, j, none⟩ = some (ptr qi) := (blk_cell b1 j).trans (by rw [Array.getElem?_setIfInBounds, if_pos rfl]; simp [hj2])
  obtain ⟨y1, hy1⟩ : ∃ y, ci[2]? = some y := ⟨ci[2], Array.getElem?_eq_getElem (by omega)⟩
  obtain ⟨y2, hy2⟩ : ∃ y, cj[2]? = some y := ⟨cj[2], Array.getElem?_eq_getElem (by omega)⟩
  have t3 : w2.cell? ⟨qi, 2, none⟩ = some y1 := (blk_cell b2 2).trans hy1
  have t4 : w2.cell? ⟨qj, 2, none⟩ = some y2 := (blk_cell b3 2).trans hy2
  clear hy1 hy2
  have f3 := blk_frozen b2 2
  have f4 := blk_frozen b3 2
  clear r1 r2 f1 f2 h1 h2 hqi hqj hg hw2 hf2 b1 b2 b3 hi2 hj2
  simp only [ptr] at s1 s2
  go_wp2_with fail
  go_region
  go_wp2
  go_end0
  refine ⟨rfl, blk_drewN (blk_far (blk_far HB1.out (Ne.symm hgj) _) (Ne.symm hgi) _) 1, blk_drewN (blk_put (blk_far HB2.out hq _) 2 _ rfl) 1, blk_drewN (blk_far (blk_put HB3.out 2 _ rfl) (Ne.symm hq) _) 1, ((HF2.out.setCell (.inl (.inr (.inr rfl))) _).setCell (.inl (.inr (.inl rfl))) _).drew⟩
/-- What the heap's functions write: the row's block, its items. -/
def FW (v : Value) (xs : List It) (b : Nat) : Prop := some b = v.ownBlock ∨ b ∈ xs.map (·.1)
theorem FW.perm {v : Value} {xs ys : List It} (h : xs.Perm ys) (b : Nat) (k : FW v xs b) : FW v ys b := k.imp id (fun k => (h.map (·.1)).mem_iff.1 k)
theorem el_ne {xs : List It} (h : (xs.map (·.1)).Nodup) {i j : Nat} (hi : i < xs.length) (hj : j < xs.length) (hij : i ≠ j) : (el z0 xs i).1 ≠ (el z0 xs j).1 := fun e => by
  have h1 : (xs.map (·.1))[i]? = some (el z0 xs i).1 := by rw [List.getElem?_map, el_at xs i hi]; rfl
  have h2 : (xs.map (·.1))[j]? = some (el z0 xs j).1 := by rw [List.getElem?_map, el_at xs j hj]; rfl
  obtain ⟨k1, e1⟩ := List.getElem?_eq_some_iff.1 h1
  obtain ⟨k2, e2⟩ := List.getElem?_eq_some_iff.1 h2
  exact hij ((List.getElem_inj h).1 (by rw [e1, e2, e]))
theorem wswap_any {w : World} {p : Nat} {u v : Value} {xs : List It} (h : WR w p u v xs) (i j : Nat) (hi : i < xs.length) (hj : j < xs.length) (hij : i ≠ j) :
    Calls Try.prog 135 #[v, .int .i64 (i : Int), .int .i64 (j : Int)] w fun e w' => e = .returned (.tuple #[]) ∧ WR w' p u v (swap z0 xs i j) ∧ Frm (FW v xs) w w' := by
  obtain ⟨g, cap, cur, rfl, hg, hc, hr⟩ := h.open_ (by omega)
  have hq := el_ne h.bn hi hj hij
  refine (swap_walk hg hc hi hj hij (hr i hi) (hr j hj) (h.it i hi) (h.it j hj) rfl rfl hq).mono ?_
  rintro e w' ⟨rfl, k1, k2, k3, kf⟩
  have hlen : (swap z0 xs i j).length = xs.length := swap_len xs i j
  have hmem : ∀ k, k < xs.length → (el z0 xs k).1 ∈ xs.map (·.1) := fun k hk => List.mem_map.2 ⟨_, el_mem xs k hk, rfl⟩
  have hgo : ∀ b cs t, w.heap[b]? = some (.cells cs t (0, 0)) → b ≠ g → (∀ k, k < xs.length → k = i ∨ k = j → b ≠ (el z0 xs k).1) → w'.heap[b]? = some (.cells cs t (0, 0)) := fun b cs t hb h1 h2 => kf.blk hb (by rintro (e | e | e); exact h1 e; exact h2 i hi (.inl rfl) e; exact h2 j hj (.inr rfl) e)
  refine ⟨rfl, ⟨?_, ?_, ?_, ?_, by rw [hlen]; exact h.few⟩, kf.mono (fun b hb hF => ?_)⟩
  · refine hgo p _ _ h.hd (blk_ne h.hd hg (by decide)) (fun k hk _ => blk_ne h.hd (h.it k hk) (by decide))
  · rw [hlen]
    obtain ⟨hl, ⟨e, _⟩ | ⟨g', cap', cur', e, h0, hb, q1, q2, q3, q4⟩⟩ := h.row
    · cases e
    · injection e with e1 e2 e3
      injection e1 with e1
      injection e1 with e1
      subst e1; subst e3
      rw [hg] at hb
      injection hb with hb
      injection hb with hb
      subst hb
      refine ⟨by rw [List.length_map, hlen]; omega, .inr ⟨g, cap, _, rfl, Nat.zero_le _, k1, q1, q2, by simpa using q3, ?_⟩⟩
      apply List.ext_getElem?
      intro k
      have hcs : xs.length ≤ cur.size := by omega
      by_cases hk : k < xs.length
      · rw [List.getElem?_take_of_lt (by omega), List.getElem?_map, el_at (z := z0) _ k (by rw [hlen]; exact hk), el_swap xs i j k hi hj]
        show (Array.toList _)[k]? = some (ptr _)
        rw [Array.getElem?_toList, Array.set!_eq_setIfInBounds, Array.set!_eq_setIfInBounds, Array.getElem?_setIfInBounds]
        by_cases e1 : j = k
        · rw [if_pos e1, if_pos e1, if_pos (by simp; omega)]
        · rw [if_neg e1, if_neg e1, Array.getElem?_setIfInBounds]
          by_cases e2 : i = k
          · rw [if_pos e2, if_pos e2, if_pos (by omega)]
          · rw [if_neg e2, if_neg e2, hr k hk]
      · rw [List.getElem?_eq_none (by simp; omega), List.getElem?_eq_none (by simp [hlen]; omega)]
  · intro k hk
    rw [hlen] at hk
    rw [el_swap xs i j k hi hj]
    by_cases e1 : j = k
    · subst e1
      rw [if_pos rfl]; exact k2
    · rw [if_neg e1]
      by_cases e2 : i = k
      · subst e2
        rw [if_pos rfl]; exact k3
      · rw [if_neg e2]
        refine hgo _ _ _ (h.it k hk) (blk_ne (h.it k hk) hg (by decide)) ?_
        rintro q hq2 (rfl | rfl)
        · exact el_ne h.bn hk hq2 (fun e => e2 e.symm)
        · exact el_ne h.bn hk hq2 (fun e => e1 e.symm)
  · exact ((swap_perm xs i j hi hj).map (·.1)).nodup_iff.2 h.bn
  · rcases hF with rfl | rfl | rfl
    · exact .inl rfl
    · exact .inr (hmem i hi)
    · exact .inr (hmem j hj)
end Go.Proofs.Ytjgoddieamphpaa.Wh
