/- A cache: part of the proof. -/
import Derived.Test.YtjgoddieamphpaaODK
import Derived.Deep.RegionHeld3
import Derived.Deep.CutRange
namespace Go.Proofs.Ytjgoddieamphpaa.Ca
open Go.RowKit Go.Sort Go.Proofs.YtjgoddieamphpaaW.PrintWords Go.Proofs.YtjgoddieamphpaaW.PrintLast Probe Go.Proofs.Ytjgoddieamphpaa.Obj Go.Proofs.Ytjgoddieamphpaa.PProbeActs
set_option maxRecDepth 100000
set_option linter.unusedVariables false
/-- The pair, with the document's row told. -/
structure PV (w0 w : World) (cb m most : Nat) (L M : List S98) (v : Value) (xb : Nat) (X : Array Value) : Prop where
  c : ∃ pt b pw Sw, CC w0 w cb pt b pw Sw most L
  r : RK w m most M v
  lo : w0.heap.size ≤ m
  x : XB w xb X
section
variable {w0 w w1 : World} {cb m most xb : Nat} {X : Array Value} {L M : List S98} {v : Value}
theorem PV.movedN (h : PV w0 w cb m most L M v xb X) (f : Frm (fun _ => False) w w1) : PV w0 w1 cb m most L M v xb X := by
  obtain ⟨pt, b, pw, Sw, h1⟩ := h.c
  exact ⟨⟨pt, b, pw, Sw, h1.movedN f⟩, h.r.frm f (fun _ _ _ e => e.elim), h.lo, h.x.movedN f⟩
theorem PV.drewN (h : PV w0 w cb m most L M v xb X) (n : Nat) : PV w0 (w.drewN n) cb m most L M v xb X := h.movedN ((Frm.refl _ w).drewN n)
theorem PV.drew (h : PV w0 w cb m most L M v xb X) : PV w0 w.drew cb m most L M v xb X := h.movedN ((Frm.refl _ w).drew)
theorem PV.pc (h : PV w0 w cb m most L M v xb X) : PC w0 w cb m most L M := by
  obtain ⟨pt, b, pw, Sw, h1⟩ := h.c
  exact ⟨pt, b, pw, Sw, v, h1, h.r, h.lo⟩
theorem PC.pv (h : PC w0 w cb m most L M) (hx : XB w xb X) : ∃ A c, PV w0 w cb m most L M (.slice A M.length c) xb X := by
  obtain ⟨pt, b, pw, Sw, v, h1, h2, h3⟩ := h
  obtain ⟨A, c, rfl, _⟩ := Kd.R_reads h2.row
  exact ⟨A, c, ⟨pt, b, pw, Sw, h1⟩, h2, h3, hx⟩
theorem PV.cpeek (h : PV w0 w cb m most L M v xb X) {k : ByteArray} (hs : k.size ≤ 1000) {now p : Int} (hp : peekC L k now = p) : Calls Try.prog 43 #[.pointer (some ⟨cb, 0, none⟩), .string k, .int .i64 now] w fun e w' => e = .returned (.int .i64 p) ∧ PV w0 w' cb m most L M v xb X := by
  obtain ⟨pt, b, pw, Sw, h1⟩ := h.c
  subst hp
  refine (h1.peek k hs now).mono ?_
  rintro e w' ⟨a, rfl⟩
  exact ⟨a, h⟩
theorem PV.rpeek (h : PV w0 w cb m most L M v xb X) (hn : (M.map (·.f0)).Nodup) {k : ByteArray} {now p : Int} (hp : peekC M k now = p) : Calls Try.prog 56 #[.pointer (some ⟨m, 0, none⟩), .string k, .int .i64 now] w fun e w' => e = .returned (.int .i64 p) ∧ PV w0 w' cb m most L M v xb X := by
  subst hp
  refine (rkpeek h.r hn k now).mono ?_
  rintro e w' ⟨a, n, rfl⟩
  exact ⟨a, h.drewN n⟩
theorem PV.clive (h : PV w0 w cb m most L M v xb X) {now : Int} {n : Nat} (hp : liveN L now = n) : Calls Try.prog 44 #[.pointer (some ⟨cb, 0, none⟩), .int .i64 now] w fun e w' => e = .returned (.int .i64 (n : Nat)) ∧ PV w0 w' cb m most L M v xb X := by
  obtain ⟨pt, b, pw, Sw, h1⟩ := h.c
  subst hp
  refine (h1.live_n now).mono ?_
  rintro e w' ⟨a, rfl⟩
  exact ⟨a, h⟩
theorem PV.rlive (h : PV w0 w cb m most L M v xb X) {now : Int} {n : Nat} (hp : liveN M now = n) : Calls Try.prog 57 #[.pointer (some ⟨m, 0, none⟩), .int .i64 now] w fun e w' => e = .returned (.int .i64 (n : Nat)) ∧ PV w0 w' cb m most L M v xb X := by
  subst hp
  refine (rklive h.r now).mono ?_
  rintro e w' ⟨a, n, rfl⟩
  exact ⟨a, h.drewN n⟩
theorem PV.cheld (h : PV w0 w cb m most L M v xb X) {n : Nat} (hp : L.length = n) : Calls Try.prog 46 #[.pointer (some ⟨cb, 0, none⟩)] w fun e w' => e = .returned (.int .i64 (n : Nat)) ∧ PV w0 w' cb m most L M v xb X := by
  obtain ⟨pt, b, pw, Sw, h1⟩ := h.c
  subst hp
  refine h1.held.mono ?_
  rintro e w' ⟨a, rfl⟩
  exact ⟨a, h⟩
theorem PV.call (h : PV w0 w cb m most L M v xb X) {now : Int} {al : List S126} (hp : allL L now = al) : Calls Try.prog 59 #[.pointer (some ⟨cb, 0, none⟩), .int .i64 now] w fun e w' => ∃ (A : Option Addr) (c : Nat), e = .returned (.slice A al.length c) ∧ Kd.R k126 126 w' 0 (fun _ => True) (.slice A al.length c) al ∧ PV w0 w' cb m most L M v xb X ∧ Frm (fun _ => False) w w' := by
  obtain ⟨pt, b, pw, Sw, h1⟩ := h.c
  subst hp
  refine (h1.all now).mono ?_
  rintro e w' ⟨A, c, a, hr, f⟩
  exact ⟨A, c, a, Kd.R_lower hr (Nat.zero_le _), h.movedN f, f⟩
theorem PV.rall (h : PV w0 w cb m most L M v xb X) (hn : (M.map (·.f0)).Nodup) (hl : M.length ≤ 1000) {now : Int} {al : List S126} (hp : allL M now = al) : Calls Try.prog 60 #[.pointer (some ⟨m, 0, none⟩), .int .i64 now] w fun e w' => ∃ (A : Option Addr) (c : Nat), e = .returned (.slice A al.length c) ∧ Kd.R k126 126 w' 0 (fun _ => True) (.slice A al.length c) al ∧ PV w0 w' cb m most L M v xb X ∧ Frm (fun _ => False) w w' := by
  subst hp
  refine (rkall h.r hn hl now).mono ?_
  rintro e w' ⟨A, c, a, hr, f⟩
  exact ⟨A, c, a, Kd.R_lower hr (Nat.zero_le _), h.movedN f, f⟩
/-- Two rows alike. -/
theorem PV.same (h : PV w0 w cb m most L M v xb X) {al : List S126} (hN : al.length ≤ 1000000) {A A1 : Option Addr} {c c1 : Nat} (r : Kd.R k126 126 w 0 (fun _ => True) (.slice A al.length c) al) (r1 : Kd.R k126 126 w 0 (fun _ => True) (.slice A1 al.length c1) al) : Calls Try.prog 58 #[.slice A al.length c, .slice A1 al.length c1] w fun e w' => e = .returned (.bool true) ∧ PV w0 w' cb m most L M v xb X := by
  have q := Kd.R_reads' r
  have q1 := Kd.R_reads' r1
  refine (same_any al hN A c A1 c1 w q.2.2 q.2.1 q1.2.2 q1.2.1).mono ?_
  rintro e w' ⟨a, n, rfl⟩
  exact ⟨a, h.drewN n⟩
end
theorem rowA {w w1 : World} {base : Nat} {v : Value} {l : List S126} (h : Kd.R k126 126 w base (fun _ => True) v l) (k : Frm (fun _ => False) w w1) : Kd.R k126 126 w1 base (fun _ => True) v l := by
  refine Kd.R_mono (Kd.R_step (Kd.R_bound h) ?_) (fun _ _ => trivial)
  rintro b ⟨_, _, _, q, hq, cells, hc⟩ hlt
  exact k.block b hlt fun hf => hf
theorem ca_out (n : Int) (A : Option Addr) (c : Nat) (l : List S85) (w : World) (hr : Kd.C k85 w A l.length l) (hc : l.length ≤ c) {r : Bool} (hl : turncocklaw23_light.f (2 * l.length + 2) l = some r) (h : r = false ∨ 60 < n) :
    Calls Try.prog 11 #[.int .i64 n, .slice A l.length c] w fun e w' => e = .returned (.bool true) ∧ Frm (fun _ => False) w w' := by
  have HR := Aside0.mk hr
  have HL := Lib.hid hl
  clear hr hl
  cases r with
  | false =>
    clear h
    go_enter Try.func11, Try.ntmps11
    go_wp2_with fail
    (with_reducible refine (turncocklaw23_light.calls (2 * l.length + 2) A c l false _ HR.out hc HL.out).mono ?_); rintro e w1 ⟨rfl, q, rfl⟩
    go_wp2_with fail
    (with_reducible refine (cawake_any _).mono ?_); rintro e w3 ⟨rfl, hf3⟩
    have HF3 := Aside0.mk hf3
    clear hf3
    go_wp2
    go_ret
    exact ⟨rfl, ((Frm.refl _ w).drewN q).trans HF3.out⟩
  | true =>
    have d1 : decide (60 < n) = true := decide_eq_true (by rcases h with h | h; cases h; exact h)
    clear h
    go_enter Try.func11, Try.ntmps11
    go_wp2_with fail
    (with_reducible refine (turncocklaw23_light.calls (2 * l.length + 2) A c l true _ HR.out hc HL.out).mono ?_); rintro e w1 ⟨rfl, q, rfl⟩
    go_wp2_with fail
    (with_reducible refine (cawake_any _).mono ?_); rintro e w3 ⟨rfl, hf3⟩
    have HF3 := Aside0.mk hf3
    clear hf3
    go_wp2
    go_ret
    exact ⟨rfl, ((Frm.refl _ w).drewN q).trans HF3.out⟩
theorem ca_bad (n : Int) (A : Option Addr) (c : Nat) (l : List S85) (w : World) (hr : Kd.C k85 w A l.length l) (hc : l.length ≤ c) (hl : turncocklaw23_light.f (2 * l.length + 2) l = some true) (h : n < 1) :
    Calls Try.prog 11 #[.int .i64 n, .slice A l.length c] w fun e w' => e = .returned (.bool true) ∧ Frm (fun _ => False) w w' := by
  have HR := Aside0.mk hr
  have HL := Lib.hid hl
  have d1 : decide (60 < n) = false := decide_eq_false (by omega)
  have d2 : decide (n < 1) = true := decide_eq_true h
  have HB := Lib.hid (show n < 1 ∨ 4096 < n from .inl h)
  clear hr hl h
  go_enter Try.func11, Try.ntmps11
  go_wp2_with fail
  (with_reducible refine (turncocklaw23_light.calls (2 * l.length + 2) A c l true _ HR.out hc HL.out).mono ?_); rintro e w1 ⟨rfl, q, rfl⟩
  go_wp2_with fail
  (with_reducible refine (cnew_bad n HB.out _).mono ?_); rintro e w1 ⟨rfl, rfl⟩
  go_wp2_with fail
  (with_reducible refine (cawake_any _).mono ?_); rintro e w3 ⟨rfl, hf3⟩
  have HF3 := Aside0.mk hf3
  clear hf3
  go_wp2
  go_ret
  exact ⟨rfl, ((Frm.refl _ w).drewN q).trans HF3.out⟩
end Go.Proofs.Ytjgoddieamphpaa.Ca
