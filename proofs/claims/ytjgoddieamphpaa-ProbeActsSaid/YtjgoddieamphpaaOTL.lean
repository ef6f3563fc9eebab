/- The document's table: drop, Drop, Put of what is new. -/
import Derived.Test.YtjgoddieamphpaaOTK
namespace Go.Proofs.Ytjgoddieamphpaa.Obj
open Go.RowKit Go.Proofs.YtjgoddieamphpaaW.PrintWords Go.Proofs.YtjgoddieamphpaaW.PrintLast Probe Go.Proofs.Ytjgoddieamphpaa.PProbeActs
set_option maxRecDepth 100000
set_option linter.unusedVariables false
theorem drop_any (L : List S98) (i : Nat) (hN : L.length ≤ 1000000) (hi : i < L.length) (A : Option Addr) (c : Nat) (w : World) (hr : Kd.C k98 w A L.length L) (hc : L.length ≤ c) :
    Calls Try.prog 72 #[.slice A L.length c, .int .i64 (i : Int)] w fun e w' => ∃ v, e = .returned v ∧ Kd.R k98 98 w' w.heap.size (fun _ => True) v (dropAt L i) ∧ Below w.heap.size w w' :=
  turncockref20_drop.calls A c L (i : Int) (dropAt L i) w hr hc (drop_f L i hN hi)
theorem k98_ty : ∀ q, q ∈ 98 :: k98.E → q ≠ 31 := by
  intro q hq
  have : q = 98 := by simpa [k98, Kd.iso, Kd.pair, Kd.string, Kd.int, Kd.scalar] using hq
  omega
/-- A row is laid anew into the head. -/
theorem RM.lay {w w1 : World} {m most : Nat} {L L' : List S98} {v v' : Value} {base : Nat} (h : RM w m most L v) (hb : Below w.heap.size w w1) (hr : Kd.R k98 98 w1 base (fun _ => True) v' L') (hl : L'.length ≤ 10000) : RM (w1.setCell ⟨m, 1, none⟩ v') m most L' v' :=
  ⟨blk_put (blk_below h.hd hb) 1 v' rfl, Kd.R_lower (Kd.R_set hr (blk_below h.hd hb) k98_ty 1 v') (Nat.zero_le _), hl⟩
theorem frm_lay {w w1 : World} {m : Nat} (h : Frm (fun b => b = m) w w1) (v : Value) : Frm (fun b => b = m) w (w1.setCell ⟨m, 1, none⟩ v) := h.setCell (.inl rfl) _
theorem rdrop_any {w : World} {m most : Nat} {L : List S98} {v : Value} (h : RM w m most L v) (k : ByteArray) :
    Calls Try.prog 48 #[.pointer (some ⟨m, 0, none⟩), .string k] w fun e w' => e = .returned (.bool (hasB L k)) ∧ (∃ v', RM w' m most (match idx L k with | some i => dropAt L i | none => L) v') ∧ Frm (fun b => b = m) w w' := by
  obtain ⟨A, c, rfl, hl, hr⟩ := Kd.R_reads h.row
  have hc1 := h.c1
  have hN := Lib.hid (show L.length ≤ 1000000 by have := h.few; omega)
  have hr := Aside0.mk hr
  have hl := Lib.hid hl
  have HH := Aside0.mk h
  have f1 : w.frozen? ⟨m, 1, none⟩ = false := blk_frozen h.hd 1
  cases hi : idx L k with
  | none =>
    have e1 := Lib.hid (show fnd L k = -1 by unfold fnd; rw [hi])
    have e3 := Lib.hid (show hasB L k = false by unfold hasB; rw [hi]; rfl)
    clear hi
    go_enter Try.func48, Try.ntmps48
    go_wp2_with fail
    (with_reducible refine (find_any L k hN.out A c _ hr.out hl.out).mono ?_); rintro e w' ⟨rfl, n, rfl⟩
    rw [e1.out]
    go_wp2
    go_ret
    exact ⟨by rw [e3.out]; rfl, ⟨_, HH.out.drewN n⟩, (Frm.refl _ _).drewN n⟩
  | some i =>
    have e1 := Lib.hid (show fnd L k = i by unfold fnd; rw [hi])
    have e3 := Lib.hid (show hasB L k = true by unfold hasB; rw [hi]; rfl)
    obtain ⟨hlt, _⟩ := idx_some hi
    have hlt := Lib.hid hlt
    have g1 : decide ((i : Int) < 0) = false := decide_eq_false (by omega)
    clear hi
    go_enter Try.func48, Try.ntmps48
    go_wp2_with fail
    (with_reducible refine (find_any L k hN.out _ c _ hr.out hl.out).mono ?_); rintro e w' ⟨rfl, n, rfl⟩
    rw [e1.out]
    go_wp2_with fail
    (with_reducible refine (drop_any L i hN.out hlt.out _ c _ (Kd.C_below hr.out (pw_below_drewN (Below.refl _ w) n)) hl.out).mono ?_); rintro e w1 ⟨v', rfl, hv, hb⟩
    obtain ⟨A', c', rfl⟩ := Kd.R_slice hv
    have HV := Aside0.mk hv
    have HB := Aside0.mk hb
    have hc1' : w1.cell? ⟨m, 1, none⟩ = some (.slice A L.length c) := pw_cell_below hb (c_drewN hc1 n)
    have f1' : w1.frozen? ⟨m, 1, none⟩ = false := blk_frozen (blk_below (blk_drewN HH.out.hd n) hb) 1
    clear hv hb
    go_wp2
    go_ret
    exact ⟨by rw [e3.out]; rfl, ⟨_, (HH.out.drewN n).lay HB.out HV.out (by unfold dropAt; rw [List.length_append, List.length_take, List.length_drop]; have := HH.out.few; omega)⟩, frm_lay (((Frm.refl _ w).drewN n).trans (Frm.of_below HB.out)) _⟩
/-- what a put leaves, and what it tells -/
def putL (L : List S98) (most : Nat) (k : ByteArray) (v : Int) : List S98 := match idx L k with
  | some i => L.set i ⟨(L.getD i z98).f0, v, (L.getD i z98).f2⟩
  | none => if most ≤ L.length then L else L ++ [⟨k, v, 0⟩]
def putC (L : List S98) (most : Nat) (k : ByteArray) : Int := match idx L k with
  | some _ => 0
  | none => if most ≤ L.length then 6 else 0
theorem rput_full {w : World} {m most : Nat} {L : List S98} {v : Value} (h : RM w m most L v) (k : ByteArray) (x : Int) (hi : idx L k = none) (hf : most ≤ L.length) :
    Calls Try.prog 16 #[.pointer (some ⟨m, 0, none⟩), .string k, .int .i64 x] w fun e w' => e = .returned (.int .i64 6) ∧ RM w' m most L v ∧ Frm (fun b => b = m) w w' := by
  obtain ⟨A, c, rfl, hl, hr⟩ := Kd.R_reads h.row
  have hc1 := h.c1
  have hc0 := h.c0
  have hN := Lib.hid (show L.length ≤ 1000000 by have := h.few; omega)
  have hr := Aside0.mk hr
  have hl := Lib.hid hl
  have HH := Aside0.mk h
  have e1 := Lib.hid (show fnd L k = -1 by unfold fnd; rw [hi])
  have g1 : decide ((most : Int) ≤ (L.length : Int)) = true := decide_eq_true (by omega)
  have g2 : decide (most ≤ L.length) = true := decide_eq_true hf
  clear hi hf
  go_enter Try.func16, Try.ntmps16
  go_wp2_with fail
  (with_reducible refine (find_any L k hN.out A c _ hr.out hl.out).mono ?_); rintro e w' ⟨rfl, n, rfl⟩
  rw [e1.out]
  go_wp2
  go_quiet (fail)
  go_wp2
  go_ret
  exact ⟨rfl, (HH.out.drewN n).drewN nq, ((Frm.refl _ _).drewN n).drewN nq⟩
theorem rput_new {w : World} {m most : Nat} {L : List S98} {v : Value} (h : RM w m most L v) (k : ByteArray) (x : Int) (hi : idx L k = none) (hf : L.length < most) (hmost : most ≤ 5000) :
    Calls Try.prog 16 #[.pointer (some ⟨m, 0, none⟩), .string k, .int .i64 x] w fun e w' => e = .returned (.int .i64 0) ∧ (∃ v', RM w' m most (L ++ [⟨k, x, 0⟩]) v') ∧ Frm (fun b => b = m) w w' := by
  obtain ⟨A, c, rfl, hl, hr⟩ := Kd.R_reads h.row
  have hc1 := h.c1
  have hc0 := h.c0
  have hN := Lib.hid (show L.length ≤ 1000000 by have := h.few; omega)
  have hr := Aside0.mk hr
  have hl := Lib.hid hl
  have HH := Aside0.mk h
  have e1 := Lib.hid (show fnd L k = -1 by unfold fnd; rw [hi])
  have g1 : decide ((most : Int) ≤ (L.length : Int)) = false := decide_eq_false (by omega)
  have g2 : decide (most ≤ L.length) = false := decide_eq_false (by omega)
  clear hi
  have hf := Lib.hid hf
  go_enter Try.func16, Try.ntmps16
  go_wp2_with fail
  (with_reducible refine (find_any L k hN.out A c _ hr.out hl.out).mono ?_); rintro e w' ⟨rfl, n, rfl⟩
  rw [e1.out]
  go_wp2
  go_quiet (fail)
  go_wp2_with (first | ((with_reducible refine gate_dst (N := 44) rfl ?_); refine Kd.R_lit k98 _ 98 ?hg (N := 44) ?hd (xs := ([] : List S98)) (inner := []) (ok := fun _ => True) (okp := fun _ => True) ?hr ?hp (fun _ hk => hk) trivial (Below.refl _ _) (Nat.le_refl _) (by simp) ?_; (case hd => rfl); (case hg => rfl); (case hr => first | (go_simp; done) | (go_simp; rfl)); (case hp => exact (Reps.none _ _)); intro v1 w1 hv1 hb1 hg1 hx1; have HV1 := Aside0.mk hv1; have HB1 := Aside0.mk hb1; have hc1b := pw_cell_below hb1 (c_drewN (c_drewN hc1 n) nq); clear hv1 hb1 hg1 hx1) | (at_builtin; refine Kd.R_append_rows k98 _ rfl (.tmp 44) (.tmp 48) 29 98 (.agg #[(.string ⟨#[]⟩), (.int .i64 0), (.int .i64 0)]) 32 rfl Try.underlying29 info98 rfl (by decide) (by omega) v1 ([] : List S98) L A L.length c (fun _ => True) (fun _ => False) rfl rfl HV1.out (Kd.C_below (Kd.C_below hr.out (pw_below_drewN (pw_below_drewN (Below.refl _ w) n) nq)) HB1.out) (fun y cs hy => by rw [k98_open hy]; exact k98_mkM _ _ _ _) (fun _ h => h.elim) (fun _ _ => trivial) HB1.out HB1.out.size (by have := hN.out; simp only [List.length_nil]; omega) ?_; intro v2 w2 hv2 hb2 hg2 hx2; have HV2 := Aside0.mk hv2; have HB2 := Aside0.mk hb2; have HS2 := Aside0.mk hg2.size; clear hv2 hb2 hg2 hx2) | (at_builtin; refine Kd.R_append k98 _ rfl (.tmp 49) (.tmp 53) 29 98 (.agg #[(.string ⟨#[]⟩), (.int .i64 0), (.int .i64 0)]) 32 rfl Try.underlying29 info98 rfl (by decide) (by omega) v2 (([] : List S98) ++ L) ⟨k, x, 0⟩ [.string k, .int .i64 x, .int .i64 0] (fun _ => True) (fun _ => False) rfl rfl (k98_mkM _ _ _ _) (fun _ h => h.elim) (fun _ _ => trivial) HV2.out HB2.out HB2.out.size (by have := hN.out; simp only [List.nil_append]; omega) ?_; intro v3 w3 hv3 hb3 hg3 hx3; obtain ⟨A3, c3, rfl⟩ := Kd.R_slice hv3; have HV3 := Aside0.mk hv3; have HB3 := Aside0.mk hb3; have hc1d := pw_cell_below hb3 (c_drewN (c_drewN hc1 n) nq); have f1d := blk_frozen (blk_below (blk_drewN (blk_drewN HH.out.hd n) nq) hb3) 1; clear hv3 hb3 hg3 hx3))
  go_ret
  have hv := HV3.out
  rw [List.nil_append] at hv
  have hlen : (L ++ [(⟨k, x, 0⟩ : S98)]).length = L.length + 1 := by simp
  rw [hlen] at hv
  exact ⟨rfl, ⟨_, ((HH.out.drewN n).drewN nq).lay HB3.out hv (by rw [hlen]; have := hf.out; omega)⟩, frm_lay ((((Frm.refl _ w).drewN n).drewN nq).trans (Frm.of_below HB3.out)) _⟩
end Go.Proofs.Ytjgoddieamphpaa.Obj
