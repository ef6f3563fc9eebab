/- A cache: part of the proof. -/
import Derived.Test.YtjgoddieamphpaaODD
namespace Go.Proofs.Ytjgoddieamphpaa.Ca
open Go.RowKit Go.Sort Go.Proofs.YtjgoddieamphpaaW.PrintWords Go.Proofs.YtjgoddieamphpaaW.PrintLast Probe Go.Proofs.Ytjgoddieamphpaa.Obj Go.Proofs.Ytjgoddieamphpaa.PProbeActs
set_option maxRecDepth 100000
set_option linter.unusedVariables false
theorem radd_new {w : World} {m most : Nat} {L : List S98} {v : Value} (h : RK w m most L v) (k : ByteArray) (hits u now : Int) (h1 : 1 ≤ hits) (h2 : now < u) (hi : idx L k = none) (hfl : liveN L now < most) (hlm : L.length < most) (hm5 : most ≤ 5000) : Calls Try.prog 53 #[.pointer (some ⟨m, 0, none⟩), .string k, .int .i64 hits, .int .i64 u, .int .i64 now] w fun e w' => e = .returned (.tuple #[.int .i64 (hold hits), .int .i64 0]) ∧ (∃ v', RK w' m most (L ++ [⟨k, hold hits, u⟩]) v') ∧ Frm (fun b => b = m) w w' := by
  obtain ⟨A, c, rfl, hl, hr⟩ := Kd.R_reads h.row
  have hc0 := h.c0
  have hc1 := h.c1
  have f1 : w.frozen? ⟨m, 1, none⟩ = false := blk_frozen h.hd 1
  have hN := Lib.hid (show L.length ≤ 1000000 by have := h.few; omega)
  have hr := Aside0.mk hr
  have hl := Lib.hid hl
  have HH := Aside0.mk h
  have e1 := Lib.hid (show fnd L k = -1 by unfold fnd; rw [hi])
  have d1 : decide (hits < 1) = false := decide_eq_false (by omega)
  have d2 : decide (u ≤ now) = false := decide_eq_false (by omega)
  have d3 : decide ((most : Int) ≤ (liveN L now : Nat)) = false := decide_eq_false (by omega)
  have d4 : decide (most ≤ liveN L now) = false := decide_eq_false (by omega)
  have d5 : decide ((most : Int) ≤ (L.length : Nat)) = false := decide_eq_false (by omega)
  have d6 : decide (most ≤ L.length) = false := decide_eq_false (by omega)
  have HLM := Lib.hid hlm
  have HM5 := Lib.hid hm5
  clear h hi hfl hlm
  go_enter Try.func53, Try.ntmps53
  go_wp2_with fail
  (with_reducible refine (find_any L k hN.out A c _ hr.out hl.out).mono ?_); rintro e w' ⟨rfl, n, rfl⟩
  rw [e1.out]
  go_upto_region 8 with (fail)
  have HW := Aside0.mk (HH.out.drewN n)
  have HF : Aside0 (Frm (fun b => b = m) w (w.drewN n)) := ⟨(Frm.refl _ w).drewN n⟩
  generalize w.drewN n = wc at *
  clear hr hl HH hc0 hc1 f1 e1
  have hc0 := HW.out.c0
  have hc1 := HW.out.c1
  go_quiet (refine Calls.quiet_of (rklive (HW.out.drewN _) now))
  have HW := Aside0.mk (HW.out.drewN nq)
  have HF := Aside0.mk (HF.out.drewN nq)
  generalize wc.drewN nq = wc1 at *
  have hc0 := HW.out.c0
  have hc1 := HW.out.c1
  go_wp2_with fail
  go_quiet (fail)
  have HW := Aside0.mk (HW.out.drewN nq)
  have HF := Aside0.mk (HF.out.drewN nq)
  generalize wc1.drewN nq = wx at *
  clear hc0 hc1
  have hr2 := Aside0.mk (Kd.R_reads' HW.out.row).2.2
  have hN2 := Lib.hid (show L.length ≤ 1000000 by have := HW.out.few; omega)
  have hc1 := HW.out.c1
  have CH : Aside0 (∀ w, Calls Try.prog 78 #[.int .i64 hits] w fun e w' => e = .returned (.int .i64 (hold hits)) ∧ w = w') := ⟨rhold_any hits⟩
  go_wp2_with fail
  (with_reducible refine (CH.out _).mono ?_); rintro e w' ⟨rfl, rfl⟩
  go_wp2_with (first | ((with_reducible refine gate_dst (N := 124) rfl ?_); refine Kd.R_lit k98 _ 98 ?hg (N := 124) ?hd (xs := ([] : List S98)) (inner := []) (ok := fun _ => True) (okp := fun _ => True) ?hr ?hp (fun _ hk => hk) trivial (Below.refl _ _) (Nat.le_refl _) (by simp) ?_; (case hd => rfl); (case hg => rfl); (case hr => first | (go_simp; done) | (go_simp; rfl)); (case hp => exact (Reps.none _ _)); intro v1 w1 hv1 hb1 hg1 hx1; have HV1 := Aside0.mk hv1; have HB1 := Aside0.mk hb1; have hc1b := pw_cell_below hb1 hc1; clear hv1 hb1 hg1 hx1) | (at_builtin; refine Kd.R_append_rows k98 _ rfl (.tmp 124) (.tmp 128) 29 98 (.agg #[(.string ⟨#[]⟩), (.int .i64 0), (.int .i64 0)]) 32 rfl Try.underlying29 info98 rfl (by decide) (by omega) v1 ([] : List S98) L A L.length c (fun _ => True) (fun _ => False) rfl rfl HV1.out (Kd.C_below hr2.out HB1.out) (fun y cs hy => by rw [k98_open hy]; exact k98_mkM _ _ _ _) (fun _ h => h.elim) (fun _ _ => trivial) HB1.out HB1.out.size (by have := hN2.out; simp only [List.length_nil]; omega) ?_; intro v2 w2 hv2 hb2 hg2 hx2; have HV2 := Aside0.mk hv2; have HB2 := Aside0.mk hb2; have HS2 := Aside0.mk hg2.size; clear hv2 hb2 hg2 hx2) | (at_builtin; refine Kd.R_append k98 _ rfl (.tmp 129) (.tmp 134) 29 98 (.agg #[(.string ⟨#[]⟩), (.int .i64 0), (.int .i64 0)]) 32 rfl Try.underlying29 info98 rfl (by decide) (by omega) v2 (([] : List S98) ++ L) ⟨k, hold hits, u⟩ [.string k, .int .i64 (hold hits), .int .i64 u] (fun _ => True) (fun _ => False) rfl rfl (k98_mkM _ _ _ _) (fun _ h => h.elim) (fun _ _ => trivial) HV2.out HB2.out HB2.out.size (by have := hN2.out; simp only [List.nil_append]; omega) ?_; intro v3 w3 hv3 hb3 hg3 hx3; obtain ⟨A3, c3, rfl⟩ := Kd.R_slice hv3; have HV3 := Aside0.mk hv3; have HB3 := Aside0.mk hb3; have hc1d := pw_cell_below hb3 hc1; have f1d := blk_frozen (blk_below HW.out.hd hb3) 1; clear hv3 hb3 hg3 hx3))
  go_ret2
  have hv := HV3.out
  rw [List.nil_append] at hv
  have hlen : (L ++ [(⟨k, hold hits, u⟩ : S98)]).length = L.length + 1 := by simp
  rw [hlen] at hv
  exact ⟨rfl, ⟨_, HW.out.lay HB3.out hv (by rw [hlen]; have := HLM.out; have := HM5.out; omega)⟩, frm_lay (HF.out.trans (Frm.of_below HB3.out)) _⟩
theorem radd_full0 {w : World} {m most : Nat} {L : List S98} {v : Value} (h : RK w m most L v) (k : ByteArray) (hits u now : Int) (h1 : 1 ≤ hits) (h2 : now < u) (hi : idx L k = none) (hfl : most ≤ liveN L now) : Calls Try.prog 53 #[.pointer (some ⟨m, 0, none⟩), .string k, .int .i64 hits, .int .i64 u, .int .i64 now] w fun e w' => e = .returned (.tuple #[.int .i64 0, .int .i64 6]) ∧ (∃ v', RK w' m most L v') ∧ Frm (fun b => b = m) w w' := by
  obtain ⟨A, c, rfl, hl, hr⟩ := Kd.R_reads h.row
  have hc0 := h.c0
  have hc1 := h.c1
  have f1 : w.frozen? ⟨m, 1, none⟩ = false := blk_frozen h.hd 1
  have hN := Lib.hid (show L.length ≤ 1000000 by have := h.few; omega)
  have hr := Aside0.mk hr
  have hl := Lib.hid hl
  have HH := Aside0.mk h
  have e1 := Lib.hid (show fnd L k = -1 by unfold fnd; rw [hi])
  have d1 : decide (hits < 1) = false := decide_eq_false (by omega)
  have d2 : decide (u ≤ now) = false := decide_eq_false (by omega)
  have d3 : decide ((most : Int) ≤ (liveN L now : Nat)) = true := decide_eq_true (by omega)
  have d4 : decide (most ≤ liveN L now) = true := decide_eq_true (by omega)
  clear h hi hfl
  go_enter Try.func53, Try.ntmps53
  go_wp2_with fail
  (with_reducible refine (find_any L k hN.out _ c _ hr.out hl.out).mono ?_); rintro e w' ⟨rfl, n, rfl⟩
  rw [e1.out]
  go_upto_region 8 with (fail)
  have HW := Aside0.mk (HH.out.drewN n)
  have HF : Aside0 (Frm (fun b => b = m) w (w.drewN n)) := ⟨(Frm.refl _ w).drewN n⟩
  generalize w.drewN n = wc at *
  clear hr hl HH hc0 hc1 f1 e1 
  have hc0 := HW.out.c0
  have hc1 := HW.out.c1
  go_quiet (refine Calls.quiet_of (rklive (HW.out.drewN _) now))
  have HW := Aside0.mk (HW.out.drewN nq)
  have HF := Aside0.mk (HF.out.drewN nq)
  generalize wc.drewN nq = wc1 at *
  have hc0 := HW.out.c0
  have hc1 := HW.out.c1
  go_wp2
  go_ret2
  exact ⟨rfl, ⟨_, HW.out⟩, HF.out⟩
theorem radd_full1 {w : World} {m most : Nat} {L : List S98} {v : Value} (h : RK w m most L v) (k : ByteArray) (hits u now : Int) (h1 : 1 ≤ hits) (h2 : now < u) (i : Nat) (hi : idx L k = some i) (hdead : (L.getD i z98).f2 ≤ now) (hfl : most ≤ liveN L now) : Calls Try.prog 53 #[.pointer (some ⟨m, 0, none⟩), .string k, .int .i64 hits, .int .i64 u, .int .i64 now] w fun e w' => e = .returned (.tuple #[.int .i64 0, .int .i64 6]) ∧ (∃ v', RK w' m most L v') ∧ Frm (fun b => b = m) w w' := by
  obtain ⟨A, c, rfl, hl, hr⟩ := Kd.R_reads h.row
  have hc0 := h.c0
  have hc1 := h.c1
  have f1 : w.frozen? ⟨m, 1, none⟩ = false := blk_frozen h.hd 1
  have hN := Lib.hid (show L.length ≤ 1000000 by have := h.few; omega)
  have hr := Aside0.mk hr
  have hl := Lib.hid hl
  have HH := Aside0.mk h
  have e1 := Lib.hid (show fnd L k = i by unfold fnd; rw [hi])
  obtain ⟨hlt, hk⟩ := idx_some hi
  obtain ⟨ad, rfl, q0, q1, q2⟩ := at_T98 hr.out (i : Int) (by omega) (by omega)
  have er : rd_T98 L (i : Int) = L.getD i z98 := by unfold rd_T98; rw [Int.toNat_natCast]
  rw [er, Int.toNat_natCast] at q0 q1 q2
  have g1 : decide ((i : Int) < 0) = false := decide_eq_false (by omega)
  have g2 : decide ((0 : Int) ≤ (i : Int)) = true := decide_eq_true (by omega)
  have d0 : decide (now < (L.getD i z98).f2) = false := decide_eq_false (by omega)
  obtain ⟨tx, htx⟩ : ∃ tx, tx = (L.getD i z98).f2 := ⟨_, rfl⟩
  rw [← htx] at d0 q2
  have hlt := Lib.hid hlt
  clear htx hdead hk er q0 q1
  have d1 : decide (hits < 1) = false := decide_eq_false (by omega)
  have d2 : decide (u ≤ now) = false := decide_eq_false (by omega)
  have d3 : decide ((most : Int) ≤ (liveN L now : Nat)) = true := decide_eq_true (by omega)
  have d4 : decide (most ≤ liveN L now) = true := decide_eq_true (by omega)
  clear h hi hfl
  go_enter Try.func53, Try.ntmps53
  go_wp2_with fail
  (with_reducible refine (find_any L k hN.out _ c _ hr.out hl.out).mono ?_); rintro e w' ⟨rfl, n, rfl⟩
  rw [e1.out]
  go_upto_region 8 with (fail)
  have HW := Aside0.mk (HH.out.drewN n)
  have HF : Aside0 (Frm (fun b => b = m) w (w.drewN n)) := ⟨(Frm.refl _ w).drewN n⟩
  generalize w.drewN n = wc at *
  clear hr hl HH hc0 hc1 f1 e1 q2 d0
  have hc0 := HW.out.c0
  have hc1 := HW.out.c1
  go_quiet (refine Calls.quiet_of (rklive (HW.out.drewN _) now))
  have HW := Aside0.mk (HW.out.drewN nq)
  have HF := Aside0.mk (HF.out.drewN nq)
  generalize wc.drewN nq = wc1 at *
  have hc0 := HW.out.c0
  have hc1 := HW.out.c1
  go_wp2
  go_ret2
  exact ⟨rfl, ⟨_, HW.out⟩, HF.out⟩
theorem radd_only {w : World} {m most : Nat} {L : List S98} {v : Value} (h : RK w m most L v) (k : ByteArray) (hits u now : Int) (h1 : 1 ≤ hits) (h2 : now < u) (hi : idx L k = none) (hfl : liveN L now < most) (hlm : most ≤ L.length) (hm5 : most ≤ 5000) : Calls Try.prog 53 #[.pointer (some ⟨m, 0, none⟩), .string k, .int .i64 hits, .int .i64 u, .int .i64 now] w fun e w' => e = .returned (.tuple #[.int .i64 (hold hits), .int .i64 0]) ∧ (∃ v', RK w' m most (liveL L now ++ [⟨k, hold hits, u⟩]) v') ∧ Frm (fun b => b = m) w w' := by
  obtain ⟨A, c, rfl, hl, hr⟩ := Kd.R_reads h.row
  have hc0 := h.c0
  have hc1 := h.c1
  have f1 : w.frozen? ⟨m, 1, none⟩ = false := blk_frozen h.hd 1
  have hN := Lib.hid (show L.length ≤ 1000000 by have := h.few; omega)
  have hr := Aside0.mk hr
  have hl := Lib.hid hl
  have HH := Aside0.mk h
  have e1 := Lib.hid (show fnd L k = -1 by unfold fnd; rw [hi])
  have d1 : decide (hits < 1) = false := decide_eq_false (by omega)
  have d2 : decide (u ≤ now) = false := decide_eq_false (by omega)
  have d3 : decide ((most : Int) ≤ (liveN L now : Nat)) = false := decide_eq_false (by omega)
  have d4 : decide (most ≤ liveN L now) = false := decide_eq_false (by omega)
  have d5 : decide ((most : Int) ≤ (L.length : Nat)) = true := decide_eq_true (by omega)
  have d6 : decide (most ≤ L.length) = true := decide_eq_true (by omega)
  have HLM := Lib.hid (show (liveL L now).length < most from hfl)
  have HM5 := Lib.hid hm5
  clear h hi hfl hlm
  go_enter Try.func53, Try.ntmps53
  go_wp2_with fail
  (with_reducible refine (find_any L k hN.out _ c _ hr.out hl.out).mono ?_); rintro e w' ⟨rfl, n, rfl⟩
  rw [e1.out]
  go_upto_region 8 with (fail)
  have HW := Aside0.mk (HH.out.drewN n)
  have HF : Aside0 (Frm (fun b => b = m) w (w.drewN n)) := ⟨(Frm.refl _ w).drewN n⟩
  generalize w.drewN n = wc at *
  clear hr hl HH hc0 hc1 f1 e1 
  have hc0 := HW.out.c0
  have hc1 := HW.out.c1
  go_quiet (refine Calls.quiet_of (rklive (HW.out.drewN _) now))
  have HW := Aside0.mk (HW.out.drewN nq)
  have HF := Aside0.mk (HF.out.drewN nq)
  generalize wc.drewN nq = wc1 at *
  have hc0 := HW.out.c0
  have hc1 := HW.out.c1
  go_wp2_with fail
  go_quiet (fail)
  have HW := Aside0.mk (HW.out.drewN nq)
  have HF := Aside0.mk (HF.out.drewN nq)
  generalize wc1.drewN nq = wx at *
  have hc1 := HW.out.c1
  have hr := Aside0.mk (Kd.R_reads' HW.out.row).2.2
  go_wp2_with fail
  (with_reducible refine (only_any L now hN.out A c _ hr.out hl).mono ?_); rintro e w2 ⟨v', rfl, hv, hb⟩
  obtain ⟨A', c', rfl⟩ := Kd.R_slice hv
  have HV := Aside0.mk hv
  have HB := Aside0.mk hb
  have hc1' := pw_cell_below hb hc1
  have f1' := blk_frozen (blk_below HW.out.hd hb) 1
  clear hv hb
  go_upto_region 5 with (fail)
  have HW' : Aside0 (RK (w2.setCell ⟨m, 1, none⟩ (.slice A' (liveL L now).length c')) m most (liveL L now) (.slice A' (liveL L now).length c')) := ⟨HW.out.lay HB.out HV.out (by have := HLM.out; have := HM5.out; omega)⟩
  have HF' : Aside0 (Frm (fun b => b = m) w (w2.setCell ⟨m, 1, none⟩ (.slice A' (liveL L now).length c'))) := ⟨frm_lay (HF.out.trans (Frm.of_below HB.out)) _⟩
  generalize w2.setCell ⟨m, 1, none⟩ (.slice A' (liveL L now).length c') = wy at *
  clear hc1' f1' HV HB HW HF hc1 hr hc0
  have HW := HW'
  have HF := HF'
  clear HW' HF'
  have hr2 := Aside0.mk (Kd.R_reads' HW.out.row).2.2
  have hN2 := Lib.hid (show (liveL L now).length ≤ 1000000 by have := HW.out.few; omega)
  have hc1 := HW.out.c1
  have CH : Aside0 (∀ w, Calls Try.prog 78 #[.int .i64 hits] w fun e w' => e = .returned (.int .i64 (hold hits)) ∧ w = w') := ⟨rhold_any hits⟩
  (with_reducible refine (CH.out _).mono ?_); rintro e w' ⟨rfl, rfl⟩
  go_wp2_with (first | ((with_reducible refine gate_dst (N := 124) rfl ?_); refine Kd.R_lit k98 _ 98 ?hg (N := 124) ?hd (xs := ([] : List S98)) (inner := []) (ok := fun _ => True) (okp := fun _ => True) ?hr ?hp (fun _ hk => hk) trivial (Below.refl _ _) (Nat.le_refl _) (by simp) ?_; (case hd => rfl); (case hg => rfl); (case hr => first | (go_simp; done) | (go_simp; rfl)); (case hp => exact (Reps.none _ _)); intro v1 w1 hv1 hb1 hg1 hx1; have HV1 := Aside0.mk hv1; have HB1 := Aside0.mk hb1; have hc1b := pw_cell_below hb1 hc1; clear hv1 hb1 hg1 hx1) | (at_builtin; refine Kd.R_append_rows k98 _ rfl (.tmp 124) (.tmp 128) 29 98 (.agg #[(.string ⟨#[]⟩), (.int .i64 0), (.int .i64 0)]) 32 rfl Try.underlying29 info98 rfl (by decide) (by omega) v1 ([] : List S98) (liveL L now) A' (liveL L now).length c' (fun _ => True) (fun _ => False) rfl rfl HV1.out (Kd.C_below hr2.out HB1.out) (fun y cs hy => by rw [k98_open hy]; exact k98_mkM _ _ _ _) (fun _ h => h.elim) (fun _ _ => trivial) HB1.out HB1.out.size (by have := hN2.out; simp only [List.length_nil]; omega) ?_; intro v2 w2 hv2 hb2 hg2 hx2; have HV2 := Aside0.mk hv2; have HB2 := Aside0.mk hb2; have HS2 := Aside0.mk hg2.size; clear hv2 hb2 hg2 hx2) | (at_builtin; refine Kd.R_append k98 _ rfl (.tmp 129) (.tmp 134) 29 98 (.agg #[(.string ⟨#[]⟩), (.int .i64 0), (.int .i64 0)]) 32 rfl Try.underlying29 info98 rfl (by decide) (by omega) v2 (([] : List S98) ++ (liveL L now)) ⟨k, hold hits, u⟩ [.string k, .int .i64 (hold hits), .int .i64 u] (fun _ => True) (fun _ => False) rfl rfl (k98_mkM _ _ _ _) (fun _ h => h.elim) (fun _ _ => trivial) HV2.out HB2.out HB2.out.size (by have := hN2.out; simp only [List.nil_append]; omega) ?_; intro v3 w3 hv3 hb3 hg3 hx3; obtain ⟨A3, c3, rfl⟩ := Kd.R_slice hv3; have HV3 := Aside0.mk hv3; have HB3 := Aside0.mk hb3; have hc1d := pw_cell_below hb3 hc1; have f1d := blk_frozen (blk_below HW.out.hd hb3) 1; clear hv3 hb3 hg3 hx3))
  go_ret2
  have hv := HV3.out
  rw [List.nil_append] at hv
  have hlen : ((liveL L now) ++ [(⟨k, hold hits, u⟩ : S98)]).length = (liveL L now).length + 1 := by simp
  rw [hlen] at hv
  exact ⟨rfl, ⟨_, HW.out.lay HB3.out hv (by rw [hlen]; have := HLM.out; have := HM5.out; omega)⟩, frm_lay (HF.out.trans (Frm.of_below HB3.out)) _⟩
theorem radd_swap {w : World} {m most : Nat} {L : List S98} {v : Value} (h : RK w m most L v) (k : ByteArray) (hits u now : Int) (h1 : 1 ≤ hits) (h2 : now < u) (i : Nat) (hi : idx L k = some i) (hdead : (L.getD i z98).f2 ≤ now) (hfl : liveN L now < most) (hlm : L.length ≤ most) (hm5 : most ≤ 5000) : Calls Try.prog 53 #[.pointer (some ⟨m, 0, none⟩), .string k, .int .i64 hits, .int .i64 u, .int .i64 now] w fun e w' => e = .returned (.tuple #[.int .i64 (hold hits), .int .i64 0]) ∧ (∃ v', RK w' m most (dropAt L i ++ [⟨k, hold hits, u⟩]) v') ∧ Frm (fun b => b = m) w w' := by
  obtain ⟨A, c, rfl, hl, hr⟩ := Kd.R_reads h.row
  have hc0 := h.c0
  have hc1 := h.c1
  have f1 : w.frozen? ⟨m, 1, none⟩ = false := blk_frozen h.hd 1
  have hN := Lib.hid (show L.length ≤ 1000000 by have := h.few; omega)
  have hr := Aside0.mk hr
  have hl := Lib.hid hl
  have HH := Aside0.mk h
  have e1 := Lib.hid (show fnd L k = i by unfold fnd; rw [hi])
  obtain ⟨hlt, hk⟩ := idx_some hi
  obtain ⟨ad, rfl, q0, q1, q2⟩ := at_T98 hr.out (i : Int) (by omega) (by omega)
  have er : rd_T98 L (i : Int) = L.getD i z98 := by unfold rd_T98; rw [Int.toNat_natCast]
  rw [er, Int.toNat_natCast] at q0 q1 q2
  have g1 : decide ((i : Int) < 0) = false := decide_eq_false (by omega)
  have g2 : decide ((0 : Int) ≤ (i : Int)) = true := decide_eq_true (by omega)
  have d0 : decide (now < (L.getD i z98).f2) = false := decide_eq_false (by omega)
  obtain ⟨tx, htx⟩ : ∃ tx, tx = (L.getD i z98).f2 := ⟨_, rfl⟩
  rw [← htx] at d0 q2
  have hlt := Lib.hid hlt
  clear htx hdead hk er q0 q1
  have d1 : decide (hits < 1) = false := decide_eq_false (by omega)
  have d2 : decide (u ≤ now) = false := decide_eq_false (by omega)
  have d3 : decide ((most : Int) ≤ (liveN L now : Nat)) = false := decide_eq_false (by omega)
  have d4 : decide (most ≤ liveN L now) = false := decide_eq_false (by omega)
  have HLM := Lib.hid (show (dropAt L i).length < most by have := dropAt_len L i hlt.out; omega)
  have HM5 := Lib.hid hm5
  clear h hi hfl hlm
  go_enter Try.func53, Try.ntmps53
  go_wp2_with fail
  (with_reducible refine (find_any L k hN.out _ c _ hr.out hl.out).mono ?_); rintro e w' ⟨rfl, n, rfl⟩
  rw [e1.out]
  go_upto_region 8 with (fail)
  have HW := Aside0.mk (HH.out.drewN n)
  have HF : Aside0 (Frm (fun b => b = m) w (w.drewN n)) := ⟨(Frm.refl _ w).drewN n⟩
  generalize w.drewN n = wc at *
  clear hr hl HH hc0 hc1 f1 e1 q2 d0
  have hc0 := HW.out.c0
  have hc1 := HW.out.c1
  go_quiet (refine Calls.quiet_of (rklive (HW.out.drewN _) now))
  have HW := Aside0.mk (HW.out.drewN nq)
  have HF := Aside0.mk (HF.out.drewN nq)
  generalize wc.drewN nq = wc1 at *
  have hc0 := HW.out.c0
  have hc1 := HW.out.c1
  have hr := Aside0.mk (Kd.R_reads' HW.out.row).2.2
  go_wp2_with fail
  (with_reducible refine (drop_any L i hN.out hlt.out _ c _ hr.out hl).mono ?_); rintro e w2 ⟨v', rfl, hv, hb⟩
  obtain ⟨A', c', rfl⟩ := Kd.R_slice hv
  have HV := Aside0.mk hv
  have HB := Aside0.mk hb
  have hc1' := pw_cell_below hb hc1
  have f1' := blk_frozen (blk_below HW.out.hd hb) 1
  clear hv hb
  go_upto_region 5 with (fail)
  have HW' : Aside0 (RK (w2.setCell ⟨m, 1, none⟩ (.slice A' (dropAt L i).length c')) m most (dropAt L i) (.slice A' (dropAt L i).length c')) := ⟨HW.out.lay HB.out HV.out (by have := HLM.out; have := HM5.out; omega)⟩
  have HF' : Aside0 (Frm (fun b => b = m) w (w2.setCell ⟨m, 1, none⟩ (.slice A' (dropAt L i).length c'))) := ⟨frm_lay (HF.out.trans (Frm.of_below HB.out)) _⟩
  generalize w2.setCell ⟨m, 1, none⟩ (.slice A' (dropAt L i).length c') = wy at *
  clear hc1' f1' HV HB HW HF hc1 hr hc0
  have HW := HW'
  have HF := HF'
  clear HW' HF'
  have hr2 := Aside0.mk (Kd.R_reads' HW.out.row).2.2
  have hN2 := Lib.hid (show (dropAt L i).length ≤ 1000000 by have := HW.out.few; omega)
  have hc1 := HW.out.c1
  have CH : Aside0 (∀ w, Calls Try.prog 78 #[.int .i64 hits] w fun e w' => e = .returned (.int .i64 (hold hits)) ∧ w = w') := ⟨rhold_any hits⟩
  (with_reducible refine (CH.out _).mono ?_); rintro e w' ⟨rfl, rfl⟩
  go_wp2_with (first | ((with_reducible refine gate_dst (N := 124) rfl ?_); refine Kd.R_lit k98 _ 98 ?hg (N := 124) ?hd (xs := ([] : List S98)) (inner := []) (ok := fun _ => True) (okp := fun _ => True) ?hr ?hp (fun _ hk => hk) trivial (Below.refl _ _) (Nat.le_refl _) (by simp) ?_; (case hd => rfl); (case hg => rfl); (case hr => first | (go_simp; done) | (go_simp; rfl)); (case hp => exact (Reps.none _ _)); intro v1 w1 hv1 hb1 hg1 hx1; have HV1 := Aside0.mk hv1; have HB1 := Aside0.mk hb1; have hc1b := pw_cell_below hb1 hc1; clear hv1 hb1 hg1 hx1) | (at_builtin; refine Kd.R_append_rows k98 _ rfl (.tmp 124) (.tmp 128) 29 98 (.agg #[(.string ⟨#[]⟩), (.int .i64 0), (.int .i64 0)]) 32 rfl Try.underlying29 info98 rfl (by decide) (by omega) v1 ([] : List S98) (dropAt L i) A' (dropAt L i).length c' (fun _ => True) (fun _ => False) rfl rfl HV1.out (Kd.C_below hr2.out HB1.out) (fun y cs hy => by rw [k98_open hy]; exact k98_mkM _ _ _ _) (fun _ h => h.elim) (fun _ _ => trivial) HB1.out HB1.out.size (by have := hN2.out; simp only [List.length_nil]; omega) ?_; intro v2 w2 hv2 hb2 hg2 hx2; have HV2 := Aside0.mk hv2; have HB2 := Aside0.mk hb2; have HS2 := Aside0.mk hg2.size; clear hv2 hb2 hg2 hx2) | (at_builtin; refine Kd.R_append k98 _ rfl (.tmp 129) (.tmp 134) 29 98 (.agg #[(.string ⟨#[]⟩), (.int .i64 0), (.int .i64 0)]) 32 rfl Try.underlying29 info98 rfl (by decide) (by omega) v2 (([] : List S98) ++ (dropAt L i)) ⟨k, hold hits, u⟩ [.string k, .int .i64 (hold hits), .int .i64 u] (fun _ => True) (fun _ => False) rfl rfl (k98_mkM _ _ _ _) (fun _ h => h.elim) (fun _ _ => trivial) HV2.out HB2.out HB2.out.size (by have := hN2.out; simp only [List.nil_append]; omega) ?_; intro v3 w3 hv3 hb3 hg3 hx3; obtain ⟨A3, c3, rfl⟩ := Kd.R_slice hv3; have HV3 := Aside0.mk hv3; have HB3 := Aside0.mk hb3; have hc1d := pw_cell_below hb3 hc1; have f1d := blk_frozen (blk_below HW.out.hd hb3) 1; clear hv3 hb3 hg3 hx3))
  go_ret2
  have hv := HV3.out
  rw [List.nil_append] at hv
  have hlen : ((dropAt L i) ++ [(⟨k, hold hits, u⟩ : S98)]).length = (dropAt L i).length + 1 := by simp
  rw [hlen] at hv
  exact ⟨rfl, ⟨_, HW.out.lay HB3.out hv (by rw [hlen]; have := HLM.out; have := HM5.out; omega)⟩, frm_lay (HF.out.trans (Frm.of_below HB3.out)) _⟩
end Go.Proofs.Ytjgoddieamphpaa.Ca
