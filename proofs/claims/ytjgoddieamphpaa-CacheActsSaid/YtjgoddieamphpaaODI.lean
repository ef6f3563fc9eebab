/- A cache: part of the proof. -/
import Derived.Test.YtjgoddieamphpaaODF
import Derived.Deep.RegionWith
import Derived.Deep.DrawnRows
namespace Go.Proofs.Ytjgoddieamphpaa.Ca
open Go.RowKit Go.Sort Go.Proofs.YtjgoddieamphpaaW.PrintWords Go.Proofs.YtjgoddieamphpaaW.PrintLast Probe Go.Proofs.Ytjgoddieamphpaa.Obj Go.Proofs.Ytjgoddieamphpaa.PProbeActs
set_option maxRecDepth 100000
set_option linter.unusedVariables false
attribute [local go_sem ↓] Go.wp_at_zero Go.wp_at_succ
/-- The end of an element is stored. -/
theorem row_set2 {w : World} {base g n cap : Nat} {L : List S98} (h : Kd.R k98 98 w base (fun _ => True) (.slice (some ⟨g, 0, none⟩) n cap) L) (i : Nat) (hi : i < L.length) (x : Int) :
    Kd.R k98 98 (w.setCell ⟨g, i * 3 + 2, none⟩ (.int .i64 x)) base (fun _ => True) (.slice (some ⟨g, 0, none⟩) n cap) (L.set i ⟨(L.getD i z98).f0, (L.getD i z98).f1, x⟩) ∧ w.grownBy (w.setCell ⟨g, i * 3 + 2, none⟩ (.int .i64 x)) (some g) := by
  obtain ⟨q0, q1, q2, _, hn⟩ := row_at h i hi
  have := Kd.R_seg (okp := fun _ => False) h (i : Int) (by omega) (by omega) (c := [.string (L.getD i z98).f0, .int .i64 (L.getD i z98).f1, .int .i64 (L.getD i z98).f2]) (seg := [.int .i64 x]) (j := 2) (x' := ⟨(L.getD i z98).f0, (L.getD i z98).f1, x⟩) rfl
    (by
      intro j u hu
      rw [Int.toNat_natCast]
      match j, hu with
      | 0, hu => obtain rfl := Option.some.inj hu; exact q0
      | 1, hu => obtain rfl := Option.some.inj hu; exact q1
      | 2, hu => obtain rfl := Option.some.inj hu; exact q2
      | j + 3, hu => simp at hu) (show 2 + 1 ≤ 3 by omega) (k98_mkM _ _ _ _) (fun _ h => h.elim)
  rw [Int.toNat_natCast] at this
  exact this
theorem set_set {L : List S98} {i : Nat} (hi : i < L.length) (n u : Int) : (L.set i ⟨(L.getD i z98).f0, n, (L.getD i z98).f2⟩).set i ⟨((L.set i ⟨(L.getD i z98).f0, n, (L.getD i z98).f2⟩).getD i z98).f0, ((L.set i ⟨(L.getD i z98).f0, n, (L.getD i z98).f2⟩).getD i z98).f1, u⟩ = L.set i ⟨(L.getD i z98).f0, n, u⟩ := by
  rw [List.set_set]
  congr 1
  rw [List.getD_eq_getElem?_getD (l := L.set _ _), List.getElem?_set_self hi]
  rfl
theorem RK.set2 {w : World} {m most g cap : Nat} {L : List S98} (h : RK w m most L (.slice (some ⟨g, 0, none⟩) L.length cap)) (hgm : m ≠ g) (i : Nat) (hi : i < L.length) (n u : Int) :
    RK ((w.setCell ⟨g, i * 3 + 1, none⟩ (.int .i64 n)).setCell ⟨g, i * 3 + 2, none⟩ (.int .i64 u)) m most (L.set i ⟨(L.getD i z98).f0, n, u⟩) (.slice (some ⟨g, 0, none⟩) L.length cap) := by
  obtain ⟨h1, _⟩ := row_set h.row i hi n
  obtain ⟨h2, _⟩ := row_set2 h1 i (by rw [List.length_set]; exact hi) u
  rw [set_set hi] at h2
  exact ⟨blk_far (blk_far h.hd hgm _) hgm _, h2, by rw [List.length_set]; exact h.few⟩
set_option maxHeartbeats 2000000 in
theorem radd_live {w : World} {m most : Nat} {L : List S98} {v : Value} (h : RK w m most L v) (k : ByteArray) (hits u now : Int) (h1 : 1 ≤ hits) (h2 : now < u) (i : Nat) (hi : idx L k = some i) (hlv : now < (L.getD i z98).f2) : Calls Try.prog 53 #[.pointer (some ⟨m, 0, none⟩), .string k, .int .i64 hits, .int .i64 u, .int .i64 now] w fun e w' => e = .returned (.tuple #[.int .i64 (nadd (L.getD i z98).f1 hits), .int .i64 0]) ∧ (∃ v', RK w' m most (L.set i ⟨(L.getD i z98).f0, nadd (L.getD i z98).f1 hits, u⟩) v') ∧ Frm (fun b => b = m) w w' := by
  obtain ⟨A, c, rfl, hl, hr⟩ := Kd.R_reads h.row
  have hc0 := h.c0
  have hc1 := h.c1
  have f1 : w.frozen? ⟨m, 1, none⟩ = false := blk_frozen h.hd 1
  have hN := Lib.hid (show L.length ≤ 1000000 by have := h.few; omega)
  have hr := Aside0.mk hr
  have hl := Lib.hid hl
  have HH := Aside0.mk h
  have e1 := Lib.hid (show fnd L k = i by unfold fnd; rw [hi])
  obtain ⟨hlt, hk⟩ := idx_some hi
  obtain ⟨ad, rfl, q0, q1, q2⟩ := at_T98 hr.out (i : Int) (by omega) (by omega)
  have er : rd_T98 L (i : Int) = L.getD i z98 := by unfold rd_T98; rw [Int.toNat_natCast]
  rw [er, Int.toNat_natCast] at q0 q1 q2
  have g1 : decide ((i : Int) < 0) = false := decide_eq_false (by omega)
  have g2 : decide ((0 : Int) ≤ (i : Int)) = true := decide_eq_true (by omega)
  have d0 : decide (now < (L.getD i z98).f2) = true := decide_eq_true (by omega)
  obtain ⟨tx, htx⟩ : ∃ tx, tx = (L.getD i z98).f2 := ⟨_, rfl⟩
  obtain ⟨nx, hnx⟩ : ∃ nx, nx = (L.getD i z98).f1 := ⟨_, rfl⟩
  rw [← htx] at d0 q2
  rw [← hnx] at q1 ⊢
  have hlt := Lib.hid hlt
  have HNX := Lib.hid hnx
  have CR : Aside0 (∀ w, Calls Try.prog 42 #[.int .i64 nx, .int .i64 hits] w fun e w' => e = .returned (.int .i64 (nadd nx hits)) ∧ w = w') := ⟨radd_any nx hits⟩
  generalize hzn : nadd nx hits = zn at *
  clear htx hk er q0 hnx hzn
  have d1 : decide (hits < 1) = false := decide_eq_false (by omega)
  have d2 : decide (u ≤ now) = false := decide_eq_false (by omega)
  clear h hi hlv
  go_enter Try.func53, Try.ntmps53
  go_wp2_with fail
  (with_reducible refine (find_any L k hN.out _ c _ hr.out hl.out).mono ?_); rintro e w' ⟨rfl, n, rfl⟩
  rw [e1.out]
  go_upto_region 5 with (fail)
  have HW := Aside0.mk (HH.out.drewN n)
  have HF : Aside0 (Frm (fun b => b = m) w (w.drewN n)) := ⟨(Frm.refl _ w).drewN n⟩
  have hr2 := Aside0.mk (Kd.R_reads' HW.out.row).2.2
  generalize w.drewN n = wc at *
  clear hr HH hc0 hc1 f1 e1 q1 q2 d0
  have hc1 := HW.out.c1
  have f1 : wc.frozen? ⟨m, 1, none⟩ = false := blk_frozen HW.out.hd 1
  go_cut [12] (fun v12 wz => v12 = .int .i64 i ∧ ∃ g cap, Aside0 (RK wz m most L (.slice (some ⟨g, 0, none⟩) L.length cap)) ∧ Aside0 (Frm (fun b => b = m) w wz) ∧ Aside0 (m ≠ g ∧ w.heap.size ≤ g))
  case first =>
    go_wp2_with (first | ((with_reducible refine gate_dst (N := 42) rfl ?_); refine Kd.R_lit k98 _ 98 ?hg (N := 42) ?hd (xs := ([] : List S98)) (inner := []) (ok := fun _ => True) (okp := fun _ => True) ?hr ?hp (fun _ hk => hk) trivial (Below.refl _ _) (Nat.le_refl _) (by simp) ?_; (case hd => rfl); (case hg => rfl); (case hr => first | (go_simp; done) | (go_simp; rfl)); (case hp => exact (Reps.none _ _)); intro v1 w1 hv1 hb1 hg1 hx1; have HV1 := Aside0.mk hv1; have HB1 := Aside0.mk hb1; have hc1b := pw_cell_below hb1 hc1; clear hv1 hb1 hg1 hx1) | (at_builtin; refine Kd.R_append_rows k98 _ rfl (.tmp 42) (.tmp 46) 29 98 (.agg #[(.string ⟨#[]⟩), (.int .i64 0), (.int .i64 0)]) 32 rfl Try.underlying29 info98 rfl (by decide) (by omega) v1 ([] : List S98) L _ L.length c (fun _ => True) (fun _ => False) rfl rfl HV1.out (Kd.C_below hr2.out HB1.out) (fun y cs hy => by rw [k98_open hy]; exact k98_mkM _ _ _ _) (fun _ h => h.elim) (fun _ _ => trivial) HB1.out HB1.out.size (by have := hN.out; simp only [List.length_nil]; omega) ?_; intro v2 w2 hv2 hb2 hg2 hx2; rw [List.nil_append] at hv2; obtain ⟨inner, hown⟩ := Kd.R_own hv2; obtain ⟨g, cap, rfl, hgb⟩ := hown.form (by have := hlt.out; omega); have HG := Aside0.mk hgb; clear hgb; have HV2 := Aside0.mk hv2; have HB2 := Aside0.mk hb2; have HM2 := Aside0.mk (blk_below HW.out.hd hb2); have hc1d := pw_cell_below hb2 hc1; have f1d := blk_frozen HM2.out 1; have hgm : m ≠ g := (fun e_ => by have := Kd.R_ne hv2 HM2.out (by decide); exact this (by rw [e_]; rfl)); have HGM := Lib.hid hgm; clear hgm hv2 hb2 hg2 hx2 hown))
    go_meet
    case rel => exact ⟨rfl, g, cap, ⟨HW.out.lay HB2.out HV2.out HW.out.few⟩, ⟨frm_lay (HF.out.trans (Frm.of_below HB2.out)) _⟩, ⟨HGM.out, by have := HG.out.1; have := HF.out.size; omega⟩⟩
  case rest =>
    clear HW HF hc1 f1 hr2
    obtain ⟨rfl, g, cap, HW, HF, HG⟩ := hcut
    have hc1 := HW.out.c1
    obtain ⟨-, q1, q2, fz, -⟩ := row_at HW.out.row i hlt.out
    rw [← HNX.out] at q1
    have fz1 := fz (i * 3 + 1)
    have fz2 := fz (i * 3 + 2)
    have hgm := HG.out.1
    have ilt := hlt.out
    clear fz
    have HS : Aside0 (RK ((wc.setCell ⟨g, i * 3 + 1, none⟩ (.int .i64 zn)).setCell ⟨g, i * 3 + 2, none⟩ (.int .i64 u)) m most (L.set i ⟨(L.getD i z98).f0, zn, u⟩) (.slice (some ⟨g, 0, none⟩) L.length cap)) := ⟨HW.out.set2 hgm i ilt zn u⟩
    have HT : Aside0 (Frm (fun b => b = m) w ((wc.setCell ⟨g, i * 3 + 1, none⟩ (.int .i64 zn)).setCell ⟨g, i * 3 + 2, none⟩ (.int .i64 u))) := ⟨(HF.out.setCell (p := ⟨g, i * 3 + 1, none⟩) (.inr HG.out.2) _).setCell (p := ⟨g, i * 3 + 2, none⟩) (.inr HG.out.2) _⟩
    have HF0 := HF
    clear HW HF HG hl hr
    go_upto_region 6 with (fail)
    go_cut [12] (fun v12 wq => v12 = .int .i64 i ∧ Aside0 (RK wq m most (L.set i ⟨(L.getD i z98).f0, zn, u⟩) (.slice (some ⟨g, 0, none⟩) L.length cap)) ∧ Aside0 (Frm (fun b => b = m) w wq))
    case first =>
      go_region_with (first | (go_at_call 42; refine (CR.out _).mono ?_; rintro e w3 ⟨rfl, rfl⟩))
      all_goals (go_wp2; go_meet)
      all_goals (case rel => exact ⟨rfl, ⟨HS.out.drewN 1⟩, ⟨HT.out.drewN 1⟩⟩)
    case rest =>
      clear HS HT HF0 hc1 q1 q2 fz1 fz2
      obtain ⟨rfl, HS, HT⟩ := hcut
      have hc1 := HS.out.c1
      have q1 := (row_at HS.out.row i (by rw [List.length_set]; exact ilt)).2.1
      have es : (L.set i (⟨(L.getD i z98).f0, zn, u⟩ : S98)).getD i z98 = ⟨(L.getD i z98).f0, zn, u⟩ := by rw [List.getD_eq_getElem?_getD (l := L.set _ _), List.getElem?_set_self ilt]; rfl
      rw [es] at q1
      have q1 : wc.cell? ⟨g, i * 3 + 1, none⟩ = some (.int .i64 zn) := q1
      clear es
      go_wp2
      go_ret2
      have eg : L.getD i z98 = L[i] := by rw [List.getD_eq_getElem?_getD, List.getElem?_eq_getElem ilt]; rfl
      have hh := HS.out
      rw [eg] at hh
      exact ⟨rfl, ⟨_, hh⟩, HT.out⟩
end Go.Proofs.Ytjgoddieamphpaa.Ca
