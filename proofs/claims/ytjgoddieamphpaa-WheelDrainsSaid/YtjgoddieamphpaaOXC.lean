/- A part of the proof. -/
import Derived.Test.YtjgoddieamphpaaOXB
namespace Go.Proofs.Ytjgoddieamphpaa.Wh
open Go.RowKit Go.Sort Go.Proofs.YtjgoddieamphpaaW.PrintWords Go.Proofs.YtjgoddieamphpaaW.PrintLast Heap Go.Proofs.Ytjgoddieamphpaa.Obj Go.Proofs.Ytjgoddieamphpaa.PWheelActs
set_option maxRecDepth 100000
set_option linter.unusedVariables false
set_option maxHeartbeats 1000000 in
theorem rwput_any {w : World} {m : Nat} {L : List S98} {v : Value} (h : RW w m L v) (k : ByteArray) (t : Int) (hfw : L.length < 9999) :
    Calls Try.prog 28 #[.pointer (some ⟨m, 0, none⟩), .string k, .int .i64 t] w fun e w' => e = .returned (.tuple #[]) ∧ (∃ v', RW w' m (putW L k t) v') ∧ Frm (fun b => b = m) w w' := by
  obtain ⟨A, c, rfl, hl, hr⟩ := Kd.R_reads h.row
  have hc0 := h.c0
  have hN := Lib.hid (show L.length ≤ 1000000 by have := h.few; omega)
  have hr := Aside0.mk hr
  have hl := Lib.hid hl
  have HH := Aside0.mk h
  have f1 : w.frozen? ⟨m, 0, none⟩ = false := blk_frozen h.hd 0
  cases hi : idx L k with
  | none =>
    have e1 := Lib.hid (show fnd L k = -1 by unfold fnd; rw [hi])
    have HD := Lib.hid (show delL L k = L by unfold delL; rw [hi])
    clear hi h
    go_enter Try.func28, Try.ntmps28
    go_wp2_with fail
    (with_reducible refine (find_any L k hN.out A c _ hr.out hl.out).mono ?_); rintro e w' ⟨rfl, n, rfl⟩
    rw [e1.out]
    go_upto_region 3 with (fail)
    have HW : Aside0 (RW (w.drewN n) m L (.slice A L.length c)) := ⟨HH.out.drewN n⟩
    have HF : Aside0 (Frm (fun b => b = m) w (w.drewN n)) := ⟨(Frm.refl _ w).drewN n⟩
    have hN3 := Lib.hid hfw
    obtain ⟨L2, hL2⟩ : ∃ L2, L2 = L := ⟨_, rfl⟩
    rw [← hL2] at HW hN3
    have HD2 : delL L k = L2 := HD.out.trans hL2.symm
    have HD := Lib.hid HD2
    clear HD2
    generalize w.drewN n = wc at *
    generalize Value.slice A L.length c = vc at *
    clear hc0 hr hl HH f1 hL2
    obtain ⟨A2, c2, e2, hl2, hr2⟩ := Kd.R_reads HW.out.row
    have hcw := HW.out.c0
    rw [e2] at hcw HW
    have HR2 := Aside0.mk hr2
    have HL2 := Lib.hid hl2
    have hN2 := Lib.hid (show L2.length ≤ 1000000 by have := HW.out.few; omega)
    clear e2 hr2 hl2
    go_wp2_with (first | ((with_reducible refine gate_dst (N := 25) rfl ?_); refine Kd.R_lit k98 _ 98 ?hg (N := 25) ?hd (xs := ([] : List S98)) (inner := []) (ok := fun _ => True) (okp := fun _ => True) ?hr ?hp (fun _ hk => hk) trivial (Below.refl _ _) (Nat.le_refl _) (by simp) ?_; (case hd => rfl); (case hg => rfl); (case hr => first | (go_simp; done) | (go_simp; rfl)); (case hp => exact (Reps.none _ _)); intro v1 w1 hv1 hb1 hg1 hx1; have HV1 := Aside0.mk hv1; have HB1 := Aside0.mk hb1; have hc1b := pw_cell_below hb1 hcw; clear hv1 hb1 hg1 hx1) | (at_builtin; refine Kd.R_append_rows k98 _ rfl (.tmp 25) (.tmp 29) 29 98 (.agg #[(.string ⟨#[]⟩), (.int .i64 0), (.int .i64 0)]) 32 rfl Try.underlying29 info98 rfl (by decide) (by omega) v1 ([] : List S98) L2 A2 L2.length c2 (fun _ => True) (fun _ => False) rfl rfl HV1.out (Kd.C_below HR2.out HB1.out) (fun y cs hy => by rw [k98_open hy]; exact k98_mkM _ _ _ _) (fun _ h => h.elim) (fun _ _ => trivial) HB1.out HB1.out.size (by have := hN2.out; simp only [List.length_nil]; omega) ?_; intro v2 w2 hv2 hb2 hg2 hx2; have HV2 := Aside0.mk hv2; have HB2 := Aside0.mk hb2; have HS2 := Aside0.mk hg2.size; clear hv2 hb2 hg2 hx2) | (at_builtin; refine Kd.R_append k98 _ rfl (.tmp 30) (.tmp 34) 29 98 (.agg #[(.string ⟨#[]⟩), (.int .i64 0), (.int .i64 0)]) 32 rfl Try.underlying29 info98 rfl (by decide) (by omega) v2 (([] : List S98) ++ L2) ⟨k, 0, t⟩ [.string k, .int .i64 0, .int .i64 t] (fun _ => True) (fun _ => False) rfl rfl (k98_mkM _ _ _ _) (fun _ h => h.elim) (fun _ _ => trivial) HV2.out HB2.out HB2.out.size (by have := hN2.out; simp only [List.nil_append]; omega) ?_; intro v3 w3 hv3 hb3 hg3 hx3; obtain ⟨A3, c3, rfl⟩ := Kd.R_slice hv3; have HV3 := Aside0.mk hv3; have HB3 := Aside0.mk hb3; have hc1d := pw_cell_below hb3 hcw; have f1d := blk_frozen (blk_below HW.out.hd hb3) 0; clear hv3 hb3 hg3 hx3))
    go_end0
    have hv := HV3.out
    rw [List.nil_append] at hv
    have hlen : (L2 ++ [(⟨k, 0, t⟩ : S98)]).length = L2.length + 1 := by simp
    rw [hlen] at hv
    exact ⟨rfl, ⟨_, by rw [show putW L k t = L2 ++ [⟨k, 0, t⟩] from by unfold putW; rw [HD.out]]; exact HW.out.lay HB3.out hv (by rw [hlen]; have := hN3.out; omega)⟩, frm_lay (HF.out.trans (Frm.of_below HB3.out)) _⟩
  | some i =>
    have e1 := Lib.hid (show fnd L k = i by unfold fnd; rw [hi])
    have HD := Lib.hid (show delL L k = dropAt L i by unfold delL; rw [hi])
    obtain ⟨hlt, _⟩ := idx_some hi
    have hlt := Lib.hid hlt
    have g1 : decide ((0 : Int) ≤ (i : Int)) = true := decide_eq_true (by omega)
    clear hi h
    go_enter Try.func28, Try.ntmps28
    go_wp2_with fail
    (with_reducible refine (find_any L k hN.out _ c _ hr.out hl.out).mono ?_); rintro e w' ⟨rfl, n, rfl⟩
    rw [e1.out]
    go_wp2_with fail
    (with_reducible refine (drop_any L i hN.out hlt.out _ c _ (Kd.C_below hr.out (pw_below_drewN (Below.refl _ w) n)) hl.out).mono ?_); rintro e w1 ⟨v', rfl, hv, hb⟩
    obtain ⟨A', c', rfl⟩ := Kd.R_slice hv
    have HV := Aside0.mk hv
    have HB := Aside0.mk hb
    have hc0' : w1.cell? ⟨m, 0, none⟩ = some (.slice A L.length c) := pw_cell_below hb (c_drewN hc0 n)
    have f1' : w1.frozen? ⟨m, 0, none⟩ = false := blk_frozen (blk_below (blk_drewN HH.out.hd n) hb) 0
    have hdl := dropAt_len L i hlt.out
    clear hv hb
    go_upto_region 3 with (fail)
    have HW : Aside0 (RW (w1.setCell ⟨m, 0, none⟩ (.slice A' (dropAt L i).length c')) m (dropAt L i) (.slice A' (dropAt L i).length c')) := ⟨(HH.out.drewN n).lay HB.out HV.out (by have := HH.out.few; omega)⟩
    have HF : Aside0 (Frm (fun b => b = m) w (w1.setCell ⟨m, 0, none⟩ (.slice A' (dropAt L i).length c'))) := ⟨frm_lay (((Frm.refl _ w).drewN n).trans (Frm.of_below HB.out)) _⟩
    have hN3 := Lib.hid (show (dropAt L i).length < 9999 by omega)
    generalize World.setCell _ _ _ = wc at *
    generalize hvc : Value.slice A' (dropAt L i).length c' = vc at *
    generalize dropAt L i = L2 at *
    clear hc0 hr hl HH f1 hc0' f1' HV HB hvc hdl
    obtain ⟨A2, c2, e2, hl2, hr2⟩ := Kd.R_reads HW.out.row
    have hcw := HW.out.c0
    rw [e2] at hcw HW
    have HR2 := Aside0.mk hr2
    have HL2 := Lib.hid hl2
    have hN2 := Lib.hid (show L2.length ≤ 1000000 by have := HW.out.few; omega)
    clear e2 hr2 hl2
    go_wp2_with (first | ((with_reducible refine gate_dst (N := 25) rfl ?_); refine Kd.R_lit k98 _ 98 ?hg (N := 25) ?hd (xs := ([] : List S98)) (inner := []) (ok := fun _ => True) (okp := fun _ => True) ?hr ?hp (fun _ hk => hk) trivial (Below.refl _ _) (Nat.le_refl _) (by simp) ?_; (case hd => rfl); (case hg => rfl); (case hr => first | (go_simp; done) | (go_simp; rfl)); (case hp => exact (Reps.none _ _)); intro v1 w1 hv1 hb1 hg1 hx1; have HV1 := Aside0.mk hv1; have HB1 := Aside0.mk hb1; have hc1b := pw_cell_below hb1 hcw; clear hv1 hb1 hg1 hx1) | (at_builtin; refine Kd.R_append_rows k98 _ rfl (.tmp 25) (.tmp 29) 29 98 (.agg #[(.string ⟨#[]⟩), (.int .i64 0), (.int .i64 0)]) 32 rfl Try.underlying29 info98 rfl (by decide) (by omega) v1 ([] : List S98) L2 A2 L2.length c2 (fun _ => True) (fun _ => False) rfl rfl HV1.out (Kd.C_below HR2.out HB1.out) (fun y cs hy => by rw [k98_open hy]; exact k98_mkM _ _ _ _) (fun _ h => h.elim) (fun _ _ => trivial) HB1.out HB1.out.size (by have := hN2.out; simp only [List.length_nil]; omega) ?_; intro v2 w2 hv2 hb2 hg2 hx2; have HV2 := Aside0.mk hv2; have HB2 := Aside0.mk hb2; have HS2 := Aside0.mk hg2.size; clear hv2 hb2 hg2 hx2) | (at_builtin; refine Kd.R_append k98 _ rfl (.tmp 30) (.tmp 34) 29 98 (.agg #[(.string ⟨#[]⟩), (.int .i64 0), (.int .i64 0)]) 32 rfl Try.underlying29 info98 rfl (by decide) (by omega) v2 (([] : List S98) ++ L2) ⟨k, 0, t⟩ [.string k, .int .i64 0, .int .i64 t] (fun _ => True) (fun _ => False) rfl rfl (k98_mkM _ _ _ _) (fun _ h => h.elim) (fun _ _ => trivial) HV2.out HB2.out HB2.out.size (by have := hN2.out; simp only [List.nil_append]; omega) ?_; intro v3 w3 hv3 hb3 hg3 hx3; obtain ⟨A3, c3, rfl⟩ := Kd.R_slice hv3; have HV3 := Aside0.mk hv3; have HB3 := Aside0.mk hb3; have hc1d := pw_cell_below hb3 hcw; have f1d := blk_frozen (blk_below HW.out.hd hb3) 0; clear hv3 hb3 hg3 hx3))
    go_end0
    have hv := HV3.out
    rw [List.nil_append] at hv
    have hlen : (L2 ++ [(⟨k, 0, t⟩ : S98)]).length = L2.length + 1 := by simp
    rw [hlen] at hv
    exact ⟨rfl, ⟨_, by rw [show putW L k t = L2 ++ [⟨k, 0, t⟩] from by unfold putW; rw [HD.out]]; exact HW.out.lay HB3.out hv (by rw [hlen]; have := hN3.out; omega)⟩, frm_lay (HF.out.trans (Frm.of_below HB3.out)) _⟩
end Go.Proofs.Ytjgoddieamphpaa.Wh
