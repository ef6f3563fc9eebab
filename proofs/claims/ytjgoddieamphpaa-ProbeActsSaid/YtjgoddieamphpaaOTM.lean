/- The document's table: Put. -/
import Derived.Test.YtjgoddieamphpaaOTL
namespace Go.Proofs.Ytjgoddieamphpaa.Obj
open Go.RowKit Go.Proofs.YtjgoddieamphpaaW.PrintWords Go.Proofs.YtjgoddieamphpaaW.PrintLast Probe Go.Proofs.Ytjgoddieamphpaa.PProbeActs
set_option maxRecDepth 100000
set_option linter.unusedVariables false
/-- The one element's cells, and that they may be written. -/
theorem row_at {w : World} {base g n cap : Nat} {ok : Nat → Prop} {L : List S98} (h : Kd.R k98 98 w base ok (.slice (some ⟨g, 0, none⟩) n cap) L) (i : Nat) (hi : i < L.length) :
    w.cell? ⟨g, i * 3, none⟩ = some (.string (L.getD i z98).f0) ∧ w.cell? ⟨g, i * 3 + 1, none⟩ = some (.int .i64 (L.getD i z98).f1) ∧ w.cell? ⟨g, i * 3 + 2, none⟩ = some (.int .i64 (L.getD i z98).f2) ∧ (∀ j, w.frozen? ⟨g, j, none⟩ = false) ∧ n = L.length := by
  obtain ⟨A5, c5, e5, _, h5⟩ := Kd.R_reads h
  injection e5 with ea en ec
  subst ea
  obtain ⟨ad5, ed, q0, q1, q2⟩ := at_T98 h5 (i : Int) (by omega) (by omega)
  obtain rfl : (⟨g, 0, none⟩ : Addr) = ad5 := Option.some.inj ed
  rw [Int.toNat_natCast] at q0 q1 q2
  simp only [add_plain] at q0 q1 q2
  have hr : rd_T98 L (i : Int) = L.getD i z98 := by unfold rd_T98; rw [Int.toNat_natCast]
  rw [hr] at q0 q1 q2
  refine ⟨q0, q1, q2, fun j => ?_, en⟩
  obtain ⟨inner, hown⟩ := Kd.R_own h
  rcases hown.2 with ⟨hv, _⟩ | ⟨g', cap', cur, hv, _, hh, _⟩
  · cases hv
  · injection hv with ha _ _
    injection ha with ha
    injection ha with hg
    subst hg
    exact blk_frozen hh j
/-- A number is stored into an element. -/
theorem row_set {w : World} {base g n cap : Nat} {L : List S98} (h : Kd.R k98 98 w base (fun _ => True) (.slice (some ⟨g, 0, none⟩) n cap) L) (i : Nat) (hi : i < L.length) (x : Int) :
    Kd.R k98 98 (w.setCell ⟨g, i * 3 + 1, none⟩ (.int .i64 x)) base (fun _ => True) (.slice (some ⟨g, 0, none⟩) n cap) (L.set i ⟨(L.getD i z98).f0, x, (L.getD i z98).f2⟩) ∧ w.grownBy (w.setCell ⟨g, i * 3 + 1, none⟩ (.int .i64 x)) (some g) := by
  obtain ⟨q0, q1, q2, _, hn⟩ := row_at h i hi
  have := Kd.R_seg (okp := fun _ => False) h (i : Int) (by omega) (by omega) (c := [.string (L.getD i z98).f0, .int .i64 (L.getD i z98).f1, .int .i64 (L.getD i z98).f2]) (seg := [.int .i64 x]) (j := 1) (x' := ⟨(L.getD i z98).f0, x, (L.getD i z98).f2⟩) rfl
    (by
      intro j u hu
      rw [Int.toNat_natCast]
      match j, hu with
      | 0, hu => obtain rfl := Option.some.inj hu; exact q0
      | 1, hu => obtain rfl := Option.some.inj hu; exact q1
      | 2, hu => obtain rfl := Option.some.inj hu; exact q2
      | j + 3, hu => simp at hu) (show 1 + 1 ≤ 3 by omega) (k98_mkM _ _ _ _) (fun _ h => h.elim)
  rw [Int.toNat_natCast] at this
  exact this
theorem rput_set {w : World} {m most : Nat} {L : List S98} {v : Value} (h : RM w m most L v) (k : ByteArray) (x : Int) (i : Nat) (hi : idx L k = some i) :
    Calls Try.prog 16 #[.pointer (some ⟨m, 0, none⟩), .string k, .int .i64 x] w fun e w' => e = .returned (.int .i64 0) ∧ (∃ v', RM w' m most (L.set i ⟨(L.getD i z98).f0, x, (L.getD i z98).f2⟩) v') ∧ Frm (fun b => b = m) w w' := by
  obtain ⟨A, c, rfl, hl, hr⟩ := Kd.R_reads h.row
  have hc1 := h.c1
  have hc0 := h.c0
  have f1 : w.frozen? ⟨m, 1, none⟩ = false := blk_frozen h.hd 1
  have hN := Lib.hid (show L.length ≤ 1000000 by have := h.few; omega)
  have hr := Aside0.mk hr
  have hl := Lib.hid hl
  have HH := Aside0.mk h
  have e1 := Lib.hid (show fnd L k = i by unfold fnd; rw [hi])
  obtain ⟨hlt, _⟩ := idx_some hi
  have g1 : decide ((i : Int) < 0) = false := decide_eq_false (by omega)
  have g2 : decide ((0 : Int) ≤ (i : Int)) = true := decide_eq_true (by omega)
  clear hi
  go_enter Try.func16, Try.ntmps16
  go_wp2_with fail
  (with_reducible refine (find_any L k hN.out A c _ hr.out hl.out).mono ?_); rintro e w' ⟨rfl, n, rfl⟩
  rw [e1.out]
  go_wp2_with (first | ((with_reducible refine gate_dst (N := 17) rfl ?_); refine Kd.R_lit k98 _ 98 ?hg (N := 17) ?hd (xs := ([] : List S98)) (inner := []) (ok := fun _ => True) (okp := fun _ => True) ?hr ?hp (fun _ hk => hk) trivial (Below.refl _ _) (Nat.le_refl _) (by simp) ?_; (case hd => rfl); (case hg => rfl); (case hr => first | (go_simp; done) | (go_simp; rfl)); (case hp => exact (Reps.none _ _)); intro v1 w1 hv1 hb1 hg1 hx1; have HV1 := Aside0.mk hv1; have HB1 := Aside0.mk hb1; have hc1b := pw_cell_below hb1 (c_drewN hc1 n); clear hv1 hb1 hg1 hx1) | (at_builtin; refine Kd.R_append_rows k98 _ rfl (.tmp 17) (.tmp 21) 29 98 (.agg #[(.string ⟨#[]⟩), (.int .i64 0), (.int .i64 0)]) 32 rfl Try.underlying29 info98 rfl (by decide) (by omega) v1 ([] : List S98) L A L.length c (fun _ => True) (fun _ => False) rfl rfl HV1.out (Kd.C_below (Kd.C_below hr.out (pw_below_drewN (Below.refl _ w) n)) HB1.out) (fun y cs hy => by rw [k98_open hy]; exact k98_mkM _ _ _ _) (fun _ h => h.elim) (fun _ _ => trivial) HB1.out HB1.out.size (by have := hN.out; simp only [List.length_nil]; omega) ?_; intro v2 w2 hv2 hb2 hg2 hx2; rw [List.nil_append] at hv2; obtain ⟨inner, hown⟩ := Kd.R_own hv2; obtain ⟨g, cap, rfl, hgb⟩ := hown.form (by omega); have HG := Aside0.mk hgb; clear hgb; have HV2 := Aside0.mk hv2; have HB2 := Aside0.mk hb2; have HM2 := Aside0.mk (blk_below (blk_drewN HH.out.hd n) hb2); have hc1d := pw_cell_below hb2 (c_drewN hc1 n); have f1d := blk_frozen HM2.out 1; have hgm : m ≠ g := (fun e_ => by have := Kd.R_ne hv2 HM2.out (by decide); exact this (by rw [e_]; rfl)); obtain ⟨q0_, q1_, q2_, fz_, _⟩ := row_at hv2 i hlt; have fz1_ := fz_ (i * 3 + 1); clear q0_ q2_ fz_ hv2 hb2 hg2 hx2 hown))
  go_ret
  have h3 := (HH.out.drewN n).lay HB2.out HV2.out HH.out.few
  obtain ⟨h4, h5⟩ := row_set h3.row i hlt x
  have eg : L.getD i z98 = L[i] := by rw [List.getD_eq_getElem?_getD, List.getElem?_eq_getElem hlt]; rfl
  rw [eg] at h4
  exact ⟨rfl, ⟨_, ⟨blk_far h3.hd hgm _, h4, by rw [List.length_set]; exact HH.out.few⟩⟩, (frm_lay (((Frm.refl _ w).drewN n).trans (Frm.of_below HB2.out)) _).setCell (p := ⟨g, i * 3 + 1, none⟩) (.inr HG.out.1) _⟩
/-- A put, whatever is there. -/
theorem rput_any {w : World} {m most : Nat} {L : List S98} {v : Value} (h : RM w m most L v) (k : ByteArray) (x : Int) (hmost : most ≤ 5000) :
    Calls Try.prog 16 #[.pointer (some ⟨m, 0, none⟩), .string k, .int .i64 x] w fun e w' => e = .returned (.int .i64 (putC L most k)) ∧ (∃ v', RM w' m most (putL L most k x) v') ∧ Frm (fun b => b = m) w w' := by
  cases hi : idx L k with
  | some i =>
    rw [show putC L most k = 0 by unfold putC; rw [hi], show putL L most k x = L.set i ⟨(L.getD i z98).f0, x, (L.getD i z98).f2⟩ by unfold putL; rw [hi]]
    exact rput_set h k x i hi
  | none =>
    by_cases hf : most ≤ L.length
    · rw [show putC L most k = 6 by unfold putC; rw [hi]; exact if_pos hf, show putL L most k x = L by unfold putL; rw [hi]; exact if_pos hf]
      exact (rput_full h k x hi hf).mono fun e w' ⟨a, b, c⟩ => ⟨a, ⟨_, b⟩, c⟩
    · rw [show putC L most k = 0 by unfold putC; rw [hi]; exact if_neg hf, show putL L most k x = L ++ [⟨k, x, 0⟩] by unfold putL; rw [hi]; exact if_neg hf]
      exact rput_new h k x hi (by omega) hmost
end Go.Proofs.Ytjgoddieamphpaa.Obj
