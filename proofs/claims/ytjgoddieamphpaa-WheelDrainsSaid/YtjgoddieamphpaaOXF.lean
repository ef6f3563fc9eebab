/- A part of the proof. -/
import Derived.Test.YtjgoddieamphpaaOXE
namespace Go.Proofs.Ytjgoddieamphpaa.Wh
open Go.RowKit Go.Sort Go.Proofs.YtjgoddieamphpaaW.PrintWords Go.Proofs.YtjgoddieamphpaaW.PrintLast Heap Go.Proofs.Ytjgoddieamphpaa.Obj Go.Proofs.Ytjgoddieamphpaa.PWheelActs
set_option maxRecDepth 100000
set_option linter.unusedVariables false
theorem dropAt_map {β : Type} (f : S98 → β) (L : List S98) (i : Nat) : (dropAt L i).map f = (L.map f).take i ++ (L.map f).drop (i + 1) := by
  unfold dropAt; rw [List.map_append, List.map_take, List.map_drop]
theorem perm_dropAt (L : List S98) (i : Nat) (hi : i < L.length) : L.Perm (L.getD i z98 :: dropAt L i) := by
  have e : L.getD i z98 = L[i] := by rw [List.getD_eq_getElem?_getD, List.getElem?_eq_getElem hi]; rfl
  unfold dropAt
  rw [e]
  have h1 : L = L.take i ++ L[i] :: L.drop (i + 1) := by rw [← List.drop_eq_getElem_cons hi, List.take_append_drop]
  exact (List.Perm.of_eq h1).trans List.perm_middle
theorem kvU_dropAt (L : List S98) (hn : (L.map (·.f0)).Nodup) (i : Nat) (hi : i < L.length) : (kvU (dropAt L i)).Perm (dropK (kvU L) (L.getD i z98).f0) := by
  have h1 := (perm_dropAt L i hi).map cu
  have h2 := dropK_perm h1 (L.getD i z98).f0
  have h3 : ((L.getD i z98 :: dropAt L i).map (·.f0)).Nodup := ((perm_dropAt L i hi).map _).nodup_iff.1 hn
  rw [List.map_cons, List.nodup_cons] at h3
  have h4 : dropK ((L.getD i z98 :: dropAt L i).map cu) (L.getD i z98).f0 = kvU (dropAt L i) := by
    rw [List.map_cons]
    refine dropK_cons (t := (L.getD i z98).f2) (fun c hc e => h3.1 ?_)
    obtain ⟨d, hd, rfl⟩ := List.mem_map.1 hc
    rw [← e]
    exact List.mem_map.2 ⟨d, hd, rfl⟩
  rw [h4] at h2
  exact h2.symm
theorem dropAt_nodup (L : List S98) (hn : (L.map (·.f0)).Nodup) (i : Nat) (hi : i < L.length) : ((dropAt L i).map (·.f0)).Nodup := by
  have h3 : ((L.getD i z98 :: dropAt L i).map (·.f0)).Nodup := ((perm_dropAt L i hi).map _).nodup_iff.1 hn
  rw [List.map_cons, List.nodup_cons] at h3
  exact h3.2
/-- The document's wheel while what is due is taken out. -/
structure RD (w0 w : World) (m : Nat) (L0 L : List S98) (v vo : Value) (o : List ByteArray) (now : Int) (q : Nat) : Prop where
  s : RW w m L v
  row : Kd.R Kd.string 9 w w0.heap.size (fun _ => True) vo o
  f : Frm (fun b => b = m) w0 w
  nd : (L.map (·.f0)).Nodup
  le : o.length ≤ q
  le2 : o.length + L.length = L0.length
  go : ∀ r K, Dues now (q - o.length) (kvU L) r K → Dues now q (kvU L0) (o ++ r) K
section
variable {w0 w w1 : World} {m : Nat} {L0 L : List S98} {v vo : Value} {o : List ByteArray} {now : Int} {q : Nat}
theorem RD.below (h : RD w0 w m L0 L v vo o now q) (hb : Below w.heap.size w w1) : RD w0 w1 m L0 L v vo o now q :=
  ⟨h.s.frm (Frm.of_below (F := fun _ => False) hb) (fun _ _ _ hf => hf.elim), Kd.R_below h.row hb, h.f.trans (Frm.of_below hb), h.nd, h.le, h.le2, h.go⟩
theorem RD.drewN (h : RD w0 w m L0 L v vo o now q) (n : Nat) : RD w0 (w.drewN n) m L0 L v vo o now q := ⟨h.s.drewN n, Kd.R_move h.row (fun _ _ => rfl), h.f.drewN n, h.nd, h.le, h.le2, h.go⟩
theorem RD.out_type (h : RD w0 w m L0 L v vo o now q) : ∀ b cs t, some b = vo.ownBlock → w.heap[b]? = some (.cells cs t (0, 0)) → t ≠ 51 ∧ t ≠ 98 := by
  intro b cs t hb hc
  obtain ⟨_, _, _, q, hq, cells, hc2⟩ := (Kd.R_bound h.row).1 b hb.symm
  have : q = 9 := by simpa [Kd.string, Kd.scalar] using hq
  subst this
  rw [hc] at hc2
  injection hc2 with hc2
  injection hc2 with _ h2 _
  subst h2
  exact ⟨by decide, by decide⟩
/-- The row of texts has grown by one, the table not yet shrunk. -/
structure RD2 (w0 w : World) (m : Nat) (L0 L : List S98) (v vo : Value) (o : List ByteArray) (k : ByteArray) (now : Int) (q : Nat) : Prop where
  s : RW w m L v
  row : Kd.R Kd.string 9 w w0.heap.size (fun _ => True) vo (o ++ [k])
  f : Frm (fun b => b = m) w0 w
theorem RD.app {vo4 : Value} {k : ByteArray} (h : RD w0 w m L0 L v vo o now q) (hr4 : Kd.R Kd.string 9 w1 w0.heap.size (fun _ => True) vo4 (o ++ [k])) (hg : w.grownBy w1 vo.ownBlock) : RD2 w0 w1 m L0 L v vo4 o k now q := by
  have hf : Frm (fun j => some j = vo.ownBlock) w w1 := ⟨hg.os, hg.tape, hg.output, hg.size, fun j hj hn => hg.block j hj hn⟩
  refine ⟨h.s.frm hf h.out_type, hr4, h.f.then hf (fun i hi hk => ?_)⟩
  have := ((Kd.R_bound h.row).1 i hk.symm).2.1
  omega
theorem RD2.drop {vo4 v' : Value} {k : ByteArray} {w2 : World} {i : Nat} (h0 : RD w0 w m L0 L v vo o now q) (h : RD2 w0 w1 m L0 L v vo4 o k now q) (hm : m < w0.heap.size) (hi : i < L.length) (hk : k = (L.getD i z98).f0) (hq : o.length < q) (hff : IsFirst (kvU L) (ku' L i)) (hd : (L.getD i z98).f2 ≤ now)
    (hv : Kd.R k98 98 w2 w1.heap.size (fun _ => True) v' (dropAt L i)) (hb : Below w1.heap.size w1 w2) : RD w0 (w2.setCell ⟨m, 0, none⟩ v') m L0 (dropAt L i) v' vo4 (o ++ [k]) now q := by
  have hl := dropAt_len L i hi
  refine ⟨h.s.lay hb hv (by have := h.s.few; omega), ?_, (h.f.trans (Frm.of_below hb)).setCell (p := ⟨m, 0, none⟩) (.inl rfl) _, dropAt_nodup L h0.nd i hi, by simp; omega, by have := h0.le2; simp; omega, fun r K hr => ?_⟩
  · exact rowS_frm (Kd.R_below h.row hb) ((Frm.refl (fun b => b = m) w2).setCell (p := ⟨m, 0, none⟩) (.inl rfl) _) (fun b hb => by subst hb; exact hm)
  · rw [List.length_append] at hr
    have h2 : Dues now (q - o.length) (kvU L) (k :: r) K := by
      rw [show q - o.length = (q - (o.length + 1)) + 1 by omega, hk]
      exact .one _ _ _ _ _ _ hff hd (kvU_dropAt L h0.nd i hi) hr
    have h3 := h0.go _ _ h2
    rw [List.append_assoc]
    exact h3
end
set_option maxHeartbeats 2000000 in
theorem rwdue_any {w : World} {m : Nat} {L : List S98} {v : Value} (h : RW w m L v) (hn : (L.map (·.f0)).Nodup) (now most : Int) : Calls Try.prog 33 #[.pointer (some ⟨m, 0, none⟩), .int .i64 now, .int .i64 most] w fun e w' => ∃ A c o v' L', e = .returned (.slice A o.length c) ∧ Kd.R Kd.string 9 w' w.heap.size (fun _ => True) (.slice A o.length c) o ∧ RW w' m L' v' ∧ (L'.map (·.f0)).Nodup ∧ L'.length ≤ L.length ∧ Frm (fun b => b = m) w w' ∧ Dues now most.toNat (kvU L) o (kvU L') := by
  have hlen := h.few
  have hmw := Lib.hid (blk_lt h.hd)
  have HN := Lib.hid hn
  have H := Aside0.mk h
  clear h hn
  go_enter Try.func33, Try.ntmps33
  go_wp2
  go_loopg [7] L.length (fun kq v7 wr => ∃ (A : Option Addr) (c : Nat) (o : List ByteArray) (v' : Value) (L' : List S98), v7 = .slice A o.length c ∧ Aside0 (kq + o.length = L.length) ∧ Aside0 (RD w wr m L L' v' (.slice A o.length c) o now most.toNat))
  case atStart => exact ⟨none, 0, [], v, L, rfl, ⟨by simp⟩, ⟨H.out, Kd.R_nil _ _ _ _ _, Frm.refl _ _, HN.out, Nat.zero_le _, by simp, fun q K hq => hq⟩⟩
  case round =>
    clear H
    obtain ⟨A, c, o, v', L', rfl, HK, HU⟩ := hrel
    have hol := HU.out.le2
    by_cases hm : o.length < most.toNat
    · have z1 : decide ((o.length : Int) < most) = true := decide_eq_true (by omega)
      obtain ⟨AL, cL, rfl, hl, hr⟩ := Kd.R_reads HU.out.s.row
      have hc0 := HU.out.s.c0
      have HR := Aside0.mk hr
      have HLc := Lib.hid hl
      clear hl
      by_cases h0 : L'.length = 0
      · have hy : L' = [] := List.eq_nil_of_length_eq_zero h0
        subst hy
        clear hr
        go_wp2_with fail
        (with_reducible refine (show Calls Try.prog 74 #[.slice AL 0 cL] _ _ from turncockref20_first.calls 1 AL cL [] (-1) _ HR.out HLc.out first_none).mono ?_); rintro e w2 ⟨rfl, hb⟩
        have HU2 := Aside0.mk (HU.out.below hb)
        clear hb
        go_wp2
        go_ret
        refine ⟨A, c, o, _, [], rfl, HU2.out.row, HU2.out.s, HU2.out.nd, by simp, HU2.out.f, ?_⟩
        have h1 := HU.out.go [] (kvU []) (by rw [show most.toNat - o.length = (most.toNat - o.length - 1) + 1 by omega]; exact .none _)
        rw [List.append_nil] at h1
        exact h1
      · obtain ⟨r, hf, hrl, hff⟩ := first_some L' (by omega) (by omega)
        obtain ⟨ad, rfl, q0, q1, q2⟩ := at_T98 hr (r : Int) (by omega) (by omega)
        have er : rd_T98 L' (r : Int) = L'.getD r z98 := by unfold rd_T98; rw [Int.toNat_natCast]
        rw [er, Int.toNat_natCast] at q0 q1 q2
        have g1 : decide ((r : Int) < 0) = false := decide_eq_false (by omega)
        obtain ⟨kx, hkx⟩ : ∃ kx, kx = (L'.getD r z98).f0 := ⟨_, rfl⟩
        obtain ⟨tx, htx⟩ : ∃ tx, tx = (L'.getD r z98).f2 := ⟨_, rfl⟩
        rw [← hkx] at q0
        rw [← htx] at q2
        have Q0 := Lib.hid q0
        have Q2 := Lib.hid q2
        have HF := Lib.hid hf
        have HI := Lib.hid hff
        have HKX := Lib.hid hkx
        have HTX := Lib.hid htx
        have hrl2 := Lib.hid hrl
        clear hf hff hkx htx er q0 q1 q2 hr
        by_cases hd : now < tx
        · have z2 : decide (now < tx) = true := decide_eq_true hd
          have HD := Lib.hid hd
          clear hd
          go_wp2_with fail
          (with_reducible refine (turncockref20_first.calls (L'.length + 1) (some ad) cL L' r _ HR.out HLc.out HF.out).mono ?_); rintro e w2 ⟨rfl, hb⟩
          have HU2 := Aside0.mk (HU.out.below hb)
          have p0 := pw_cell_below hb Q0.out
          have p2 := pw_cell_below hb Q2.out
          have pc := pw_cell_below hb hc0
          clear hb
          go_wp2
          go_ret
          refine ⟨A, c, o, _, L', rfl, (HU2.out.drewN 0).row, HU2.out.s, HU2.out.nd, by omega, HU2.out.f, ?_⟩
          have h1 := HU.out.go [] (kvU L') (by rw [show most.toNat - o.length = (most.toNat - o.length - 1) + 1 by omega]; exact .later _ _ _ HI.out (by have := HD.out; rw [HTX.out] at this; exact this))
          rw [List.append_nil] at h1
          exact h1
        · have z2 : decide (now < tx) = false := decide_eq_false hd
          have HD := Lib.hid (show tx ≤ now by omega)
          clear hd
          go_wp2_with fail
          (with_reducible refine (turncockref20_first.calls (L'.length + 1) (some ad) cL L' r _ HR.out HLc.out HF.out).mono ?_); rintro e w2 ⟨rfl, hb⟩
          have HU2 := Aside0.mk (HU.out.below hb)
          have HR2 := Aside0.mk HU2.out.row
          have hsz2 := Lib.hid HU2.out.f.size
          have p0 := pw_cell_below hb Q0.out
          have p2 := pw_cell_below hb Q2.out
          have pc := pw_cell_below hb hc0
          clear hb
          go_wp2_with (first | (at_builtin; refine Kd.R_append Kd.string _ rfl (.tmp 33) (.tmp 42) 22 9 (.string ⟨#[]⟩) 16 rfl Try.underlying22 info_str rfl (by decide) (by omega) (.slice A o.length c) o kx [.string kx] (fun _ => True) (fun _ => False) rfl rfl rfl (fun _ h => h.elim) (fun _ _ => trivial) HR2.out (Below.refl _ _) hsz2.out (by omega) ?_; intro v4 w4 hv4 hb4 hg4 hx4; obtain ⟨A4, c4, e4⟩ := Kd.R_slice hv4; subst e4; have H4 := Aside0.mk (HU2.out.app hv4 hg4); have pc4 := H4.out.s.c0; have pf4 := blk_frozen H4.out.s.hd 0; clear hv4 hb4 hg4 hx4))
          (with_reducible refine (drop_any L' r (by omega) hrl2.out (some ad) cL _ (Kd.R_reads' H4.out.s.row).2.2 HLc.out).mono ?_); rintro e w5 ⟨v5, rfl, hv5, hb5⟩
          obtain ⟨A5, c5, rfl⟩ := Kd.R_slice hv5
          have pc5 := pw_cell_below hb5 pc4
          have pf5 := blk_frozen (blk_below H4.out.s.hd hb5) 0
          have HV5 := Aside0.mk hv5
          have HB5 := Aside0.mk hb5
          have hdl := dropAt_len L' r hrl2.out
          clear hv5 hb5
          go_wp2
          go_roundg (gk - 1)
          case measure => have := HK.out; omega
          case rel => exact ⟨A4, c4, o ++ [kx], _, dropAt L' r, by simp, ⟨by have := HK.out; simp; omega⟩, ⟨RD2.drop HU2.out H4.out hmw.out hrl2.out HKX.out hm HI.out (by have := HD.out; rw [HTX.out] at this; exact this) HV5.out HB5.out⟩⟩
    · have z1 : decide ((o.length : Int) < most) = false := decide_eq_false (by omega)
      go_wp2
      go_ret
      refine ⟨A, c, o, v', L', rfl, HU.out.row, HU.out.s, HU.out.nd, by omega, HU.out.f, ?_⟩
      have h1 := HU.out.go [] (kvU L') (by rw [show most.toNat - o.length = 0 by omega]; exact .full _)
      rw [List.append_nil] at h1
      exact h1
end Go.Proofs.Ytjgoddieamphpaa.Wh
