/- A cache: part of the proof. -/
import Derived.Test.YtjgoddieamphpaaODC
namespace Go.Proofs.Ytjgoddieamphpaa.Ca
open Go.RowKit Go.Sort Go.Proofs.YtjgoddieamphpaaW.PrintWords Go.Proofs.YtjgoddieamphpaaW.PrintLast Probe Go.Proofs.Ytjgoddieamphpaa.Obj Go.Proofs.Ytjgoddieamphpaa.PProbeActs
open Go.Proofs.Ytjgoddieamphpaa.Wh (KV lessK lessK_irr lessK_tr lessK_ntr IsFirst dropK dropK_perm dropK_cons Dues)
set_option maxRecDepth 100000
set_option linter.unusedVariables false
theorem wo_perm {L L' : List S98} (h : L.Perm L') (o : List ByteArray) : (wo L o).Perm (wo L' o) := h.filter _
theorem dropAt_wo {L : List S98} (hn : (L.map (·.f0)).Nodup) (i : Nat) (hi : i < L.length) : (dropAt L i).Perm (wo L [(L.getD i z98).f0]) := by
  have h1 := (perm_at L i hi).filter (fun c => nin [(L.getD i z98).f0] c.f0)
  have h3 : ((L.getD i z98 :: dropAt L i).map (·.f0)).Nodup := ((perm_at L i hi).map _).nodup_iff.1 hn
  rw [List.map_cons, List.nodup_cons] at h3
  have h4 : (L.getD i z98 :: dropAt L i).filter (fun c => nin [(L.getD i z98).f0] c.f0) = dropAt L i := by
    rw [List.filter_cons, if_neg (by rw [nin_one]; simp), List.filter_eq_self.2]
    intro c hc
    rw [nin_one]
    exact decide_eq_true fun e => h3.1 (by rw [← e]; exact List.mem_map.2 ⟨c, hc, rfl⟩)
  rw [h4] at h1
  exact h1.symm
/-- The document's cache while what ended is taken out. -/
structure SD (w0 w : World) (m most : Nat) (L0 L : List S98) (v : Value) (o : List ByteArray) (now : Int) (q : Nat) : Prop where
  s : RK w m most L v
  f : Frm (fun b => b = m) w0 w
  nd : (L.map (·.f0)).Nodup
  le : o.length ≤ q
  le2 : o.length + L.length = L0.length
  wo : L.Perm (wo L0 o)
  go : ∀ r K, Dues now (q - o.length) (kvC L) r K → Dues now q (kvC L0) (o ++ r) K
section
variable {w0 w w1 : World} {m most : Nat} {L0 L : List S98} {v : Value} {o : List ByteArray} {now : Int} {q : Nat}
theorem SD.below (h : SD w0 w m most L0 L v o now q) (hb : Below w.heap.size w w1) : SD w0 w1 m most L0 L v o now q :=
  ⟨h.s.frm (Frm.of_below (F := fun _ => False) hb) (fun _ _ _ hf => hf.elim), h.f.trans (Frm.of_below hb), h.nd, h.le, h.le2, h.wo, h.go⟩
theorem SD.drewN (h : SD w0 w m most L0 L v o now q) (n : Nat) : SD w0 (w.drewN n) m most L0 L v o now q := ⟨h.s.drewN n, h.f.drewN n, h.nd, h.le, h.le2, h.wo, h.go⟩
theorem SD.drop {v' : Value} {i : Nat} (h0 : SD w0 w m most L0 L v o now q) (hi : i < L.length) (hq : o.length < q) (hff : IsFirst (kvC L) (ku' L i)) (hd : (L.getD i z98).f2 ≤ now)
    (hv : Kd.R k98 98 w1 w.heap.size (fun _ => True) v' (dropAt L i)) (hb : Below w.heap.size w w1) : SD w0 (w1.setCell ⟨m, 1, none⟩ v') m most L0 (dropAt L i) v' (o ++ [(L.getD i z98).f0]) now q := by
  have hl := dropAt_len L i hi
  refine ⟨h0.s.lay hb hv (by have := h0.s.few; omega), (h0.f.trans (Frm.of_below hb)).setCell (p := ⟨m, 1, none⟩) (.inl rfl) _, dropAt_nodup L h0.nd i hi, by simp; omega, by have := h0.le2; simp; omega, ?_, fun r K hr => ?_⟩
  · rw [wo_snoc]
    exact (dropAt_wo h0.nd i hi).trans (wo_perm h0.wo _)
  · rw [List.length_append] at hr
    have h2 : Dues now (q - o.length) (kvC L) ((L.getD i z98).f0 :: r) K := by
      rw [show q - o.length = (q - (o.length + 1)) + 1 by omega]
      exact .one _ _ _ _ _ _ hff hd (kvC_dropAt L h0.nd i hi) hr
    have h3 := h0.go _ _ h2
    rw [List.append_assoc]
    exact h3
end
set_option maxHeartbeats 2000000 in
theorem rksweep {w : World} {m most : Nat} {L : List S98} {v : Value} (h : RK w m most L v) (hn : (L.map (·.f0)).Nodup) (now q : Int) : Calls Try.prog 55 #[.pointer (some ⟨m, 0, none⟩), .int .i64 now, .int .i64 q] w fun e w' => ∃ o v' L', e = .returned (.int .i64 (o.length : Nat)) ∧ RK w' m most L' v' ∧ (L'.map (·.f0)).Nodup ∧ Frm (fun b => b = m) w w' ∧ Dues now q.toNat (kvC L) o (kvC L') ∧ L'.Perm (wo L o) := by
  have hlen := h.few
  have hmw := Lib.hid (blk_lt h.hd)
  have HN := Lib.hid hn
  have H := Aside0.mk h
  clear h hn
  go_enter Try.func55, Try.ntmps55
  go_wp2

  go_loopg [7] L.length (fun kq v7 wr => ∃ (o : List ByteArray) (v' : Value) (L' : List S98), v7 = .int .i64 (o.length : Nat) ∧ Aside0 (kq + o.length = L.length) ∧ Aside0 (SD w wr m most L L' v' o now q.toNat))
  case atStart => exact ⟨[], v, L, rfl, ⟨by simp⟩, ⟨H.out, Frm.refl _ _, HN.out, Nat.zero_le _, by simp, by rw [wo_nil], fun q K hq => hq⟩⟩
  case round =>
    clear H
    obtain ⟨o, v', L', rfl, HK, HU⟩ := hrel
    have hol := HU.out.le2
    by_cases hm : o.length < q.toNat
    · have z1 : decide ((o.length : Int) < q) = true := decide_eq_true (by omega)
      obtain ⟨AL, cL, rfl, hl, hr⟩ := Kd.R_reads HU.out.s.row
      have hc1 := HU.out.s.c1
      have HR := Aside0.mk hr
      have HLc := Lib.hid hl
      clear hl
      by_cases h0 : L'.length = 0
      · have hy : L' = [] := List.eq_nil_of_length_eq_zero h0
        subst hy
        clear hr
        go_wp2_with fail
        (with_reducible refine (show Calls Try.prog 74 #[.slice AL 0 cL] _ _ from turncockref20_first.calls 1 AL cL [] (-1) _ HR.out HLc.out first_none).mono ?_); rintro e w2 ⟨rfl, hb⟩
        have HU2 := Aside0.mk (HU.out.below hb)
        clear hb
        go_wp2
        go_ret
        refine ⟨o, _, [], rfl, HU2.out.s, HU2.out.nd, HU2.out.f, ?_, HU2.out.wo⟩
        have h1 := HU.out.go [] (kvC []) (by rw [show q.toNat - o.length = (q.toNat - o.length - 1) + 1 by omega]; exact .none _)
        rw [List.append_nil] at h1
        exact h1
      · obtain ⟨r, hf, hrl, hff⟩ := first_some L' (by omega) (by omega)
        obtain ⟨ad, rfl, q0, q1, q2⟩ := at_T98 hr (r : Int) (by omega) (by omega)
        have er : rd_T98 L' (r : Int) = L'.getD r z98 := by unfold rd_T98; rw [Int.toNat_natCast]
        rw [er, Int.toNat_natCast] at q0 q1 q2
        have g1 : decide ((r : Int) < 0) = false := decide_eq_false (by omega)
        obtain ⟨tx, htx⟩ : ∃ tx, tx = (L'.getD r z98).f2 := ⟨_, rfl⟩
        rw [← htx] at q2
        have Q2 := Lib.hid q2
        have HF := Lib.hid hf
        have HI := Lib.hid hff
        have HTX := Lib.hid htx
        have hrl2 := Lib.hid hrl
        clear hf hff htx er q0 q1 q2 hr
        by_cases hd : now < tx
        · have z2 : decide (now < tx) = true := decide_eq_true hd
          have HD := Lib.hid hd
          clear hd
          go_wp2_with fail
          (with_reducible refine (turncockref20_first.calls (L'.length + 1) (some ad) cL L' r _ HR.out HLc.out HF.out).mono ?_); rintro e w2 ⟨rfl, hb⟩
          have HU2 := Aside0.mk (HU.out.below hb)
          have p2 := pw_cell_below hb Q2.out
          have pc := pw_cell_below hb hc1
          clear hb
          go_wp2
          go_ret
          refine ⟨o, _, L', rfl, HU2.out.s, HU2.out.nd, HU2.out.f, ?_, HU2.out.wo⟩
          have h1 := HU.out.go [] (kvC L') (by rw [show q.toNat - o.length = (q.toNat - o.length - 1) + 1 by omega]; exact .later _ _ _ HI.out (by have := HD.out; rw [HTX.out] at this; exact this))
          rw [List.append_nil] at h1
          exact h1
        · have z2 : decide (now < tx) = false := decide_eq_false hd
          have HD := Lib.hid (show tx ≤ now by omega)
          clear hd
          go_wp2_with fail
          (with_reducible refine (turncockref20_first.calls (L'.length + 1) (some ad) cL L' r _ HR.out HLc.out HF.out).mono ?_); rintro e w2 ⟨rfl, hb⟩
          have HU2 := Aside0.mk (HU.out.below hb)
          have p2 := pw_cell_below hb Q2.out
          have pc := HU2.out.s.c1
          have pf := blk_frozen HU2.out.s.hd 1
          clear hb
          go_wp2_with fail
          (with_reducible refine (drop_any L' r (by omega) hrl2.out (some ad) cL _ (Kd.R_reads' HU2.out.s.row).2.2 HLc.out).mono ?_); rintro e w5 ⟨v5, rfl, hv5, hb5⟩
          obtain ⟨A5, c5, rfl⟩ := Kd.R_slice hv5
          have pc5 := pw_cell_below hb5 pc
          have pf5 := blk_frozen (blk_below HU2.out.s.hd hb5) 1
          have HV5 := Aside0.mk hv5
          have HB5 := Aside0.mk hb5
          have hdl := dropAt_len L' r hrl2.out
          clear hv5 hb5
          go_wp2
          go_roundg (gk - 1)
          case measure => have := HK.out; omega
          case rel => exact ⟨o ++ [(L'.getD r z98).f0], _, dropAt L' r, by simp, ⟨by have := HK.out; simp; omega⟩, ⟨SD.drop HU2.out hrl2.out hm HI.out (by have := HD.out; rw [HTX.out] at this; exact this) HV5.out HB5.out⟩⟩
    · have z1 : decide ((o.length : Int) < q) = false := decide_eq_false (by omega)
      go_wp2
      go_ret
      refine ⟨o, v', L', rfl, HU.out.s, HU.out.nd, HU.out.f, ?_, HU.out.wo⟩
      have h1 := HU.out.go [] (kvC L') (by rw [show q.toNat - o.length = 0 by omega]; exact .full _)
      rw [List.append_nil] at h1
      exact h1
end Go.Proofs.Ytjgoddieamphpaa.Ca
