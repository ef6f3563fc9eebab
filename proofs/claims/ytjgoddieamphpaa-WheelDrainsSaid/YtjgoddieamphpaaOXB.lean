/- A part of the proof. -/
import Derived.Test.YtjgoddieamphpaaOXA
namespace Go.Proofs.Ytjgoddieamphpaa.Wh
open Go.RowKit Go.Sort Go.Proofs.YtjgoddieamphpaaW.PrintWords Go.Proofs.YtjgoddieamphpaaW.PrintLast Heap Go.Proofs.Ytjgoddieamphpaa.Obj Go.Proofs.Ytjgoddieamphpaa.PWheelActs
set_option maxRecDepth 100000
set_option linter.unusedVariables false
theorem c_drewN {w : World} {a : Addr} {v : Value} (h : w.cell? a = some v) (n : Nat) : (w.drewN n).cell? a = some v := (World.cell?_of_block (w := w) (w' := w.drewN n) rfl).trans h
theorem rdrop_any {w : World} {m : Nat} {L : List S98} {v : Value} (h : RW w m L v) (k : ByteArray) :
    Calls Try.prog 30 #[.pointer (some ⟨m, 0, none⟩), .string k] w fun e w' => e = .returned (.bool (hasB L k)) ∧ (∃ v', RW w' m (delL L k) v') ∧ Frm (fun b => b = m) w w' := by
  obtain ⟨A, c, rfl, hl, hr⟩ := Kd.R_reads h.row
  have hc0 := h.c0
  have hN := Lib.hid (show L.length ≤ 1000000 by have := h.few; omega)
  have hr := Aside0.mk hr
  have hl := Lib.hid hl
  have HH := Aside0.mk h
  have f1 : w.frozen? ⟨m, 0, none⟩ = false := blk_frozen h.hd 0
  cases hi : idx L k with
  | none =>
    have e1 := Lib.hid (show fnd L k = -1 by unfold fnd; rw [hi])
    have e3 := Lib.hid (show hasB L k = false by unfold hasB; rw [hi]; rfl)
    have e4 := Lib.hid (show delL L k = L by unfold delL; rw [hi])
    clear hi
    go_enter Try.func30, Try.ntmps30
    go_wp2_with fail
    (with_reducible refine (find_any L k hN.out A c _ hr.out hl.out).mono ?_); rintro e w' ⟨rfl, n, rfl⟩
    rw [e1.out]
    go_wp2
    go_ret
    exact ⟨by rw [e3.out]; rfl, ⟨_, by rw [e4.out]; exact HH.out.drewN n⟩, (Frm.refl _ _).drewN n⟩
  | some i =>
    have e1 := Lib.hid (show fnd L k = i by unfold fnd; rw [hi])
    have e3 := Lib.hid (show hasB L k = true by unfold hasB; rw [hi]; rfl)
    have e4 := Lib.hid (show delL L k = dropAt L i by unfold delL; rw [hi])
    obtain ⟨hlt, _⟩ := idx_some hi
    have hlt := Lib.hid hlt
    have g1 : decide ((i : Int) < 0) = false := decide_eq_false (by omega)
    clear hi
    go_enter Try.func30, Try.ntmps30
    go_wp2_with fail
    (with_reducible refine (find_any L k hN.out _ c _ hr.out hl.out).mono ?_); rintro e w' ⟨rfl, n, rfl⟩
    rw [e1.out]
    go_wp2_with fail
    (with_reducible refine (drop_any L i hN.out hlt.out _ c _ (Kd.C_below hr.out (pw_below_drewN (Below.refl _ w) n)) hl.out).mono ?_); rintro e w1 ⟨v', rfl, hv, hb⟩
    obtain ⟨A', c', rfl⟩ := Kd.R_slice hv
    have HV := Aside0.mk hv
    have HB := Aside0.mk hb
    have hc0' : w1.cell? ⟨m, 0, none⟩ = some (.slice A L.length c) := pw_cell_below hb (c_drewN hc0 n)
    have f1' : w1.frozen? ⟨m, 0, none⟩ = false := blk_frozen (blk_below (blk_drewN HH.out.hd n) hb) 0
    clear hv hb
    go_wp2
    go_ret
    exact ⟨by rw [e3.out]; rfl, ⟨_, by rw [e4.out]; exact (HH.out.drewN n).lay HB.out HV.out (by unfold dropAt; rw [List.length_append, List.length_take, List.length_drop]; have := HH.out.few; omega)⟩, frm_lay (((Frm.refl _ w).drewN n).trans (Frm.of_below HB.out)) _⟩
theorem rwat_any {w : World} {m : Nat} {L : List S98} {v : Value} (h : RW w m L v) (k : ByteArray) :
    Calls Try.prog 37 #[.pointer (some ⟨m, 0, none⟩), .string k] w fun e w' => e = .returned (.tuple #[.int .i64 (getU L k), .bool (hasB L k)]) ∧ ∃ n, w' = w.drewN n := by
  obtain ⟨A, c, rfl, hl, hr⟩ := Kd.R_reads h.row
  have hc0 := h.c0
  have hN := Lib.hid (show L.length ≤ 1000000 by have := h.few; omega)
  have hr := Aside0.mk hr
  have hl := Lib.hid hl
  cases hi : idx L k with
  | none =>
    have e1 := Lib.hid (show fnd L k = -1 by unfold fnd; rw [hi])
    have e2 := Lib.hid (show getU L k = 0 by unfold getU; rw [hi])
    have e3 := Lib.hid (show hasB L k = false by unfold hasB; rw [hi]; rfl)
    clear hi
    go_enter Try.func37, Try.ntmps37
    go_wp2_with fail
    (with_reducible refine (find_any L k hN.out A c _ hr.out hl.out).mono ?_); rintro e w' ⟨rfl, n, rfl⟩
    rw [e1.out]
    go_wp2
    go_ret2
    exact ⟨by rw [e2.out, e3.out]; rfl, n, rfl⟩
  | some i =>
    have e1 := Lib.hid (show fnd L k = i by unfold fnd; rw [hi])
    have e2 := Lib.hid (show getU L k = (rd_T98 L (i : Int)).f2 by unfold getU rd_T98; rw [hi, Int.toNat_natCast])
    have e3 := Lib.hid (show hasB L k = true by unfold hasB; rw [hi]; rfl)
    obtain ⟨hlt, _⟩ := idx_some hi
    obtain ⟨ad, rfl, q0, q1, q2⟩ := at_T98 hr.out (i : Int) (by omega) (by omega)
    have g1 : decide ((i : Int) < 0) = false := decide_eq_false (by omega)
    rw [Int.toNat_natCast] at q0 q1 q2
    clear hi
    go_enter Try.func37, Try.ntmps37
    go_wp2_with fail
    (with_reducible refine (find_any L k hN.out _ c _ hr.out hl.out).mono ?_); rintro e w' ⟨rfl, n, rfl⟩
    rw [e1.out]
    go_wp2
    go_ret2
    exact ⟨by rw [e2.out, e3.out]; rfl, n, rfl⟩
end Go.Proofs.Ytjgoddieamphpaa.Wh
