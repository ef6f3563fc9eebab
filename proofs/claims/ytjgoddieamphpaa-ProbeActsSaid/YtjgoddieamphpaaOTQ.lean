/- A table of texts beside the document's table. -/
import Derived.Test.YtjgoddieamphpaaOTP
namespace Go.Proofs.Ytjgoddieamphpaa.Obj
open Go.RowKit Go.Proofs.YtjgoddieamphpaaW.PrintWords Go.Proofs.YtjgoddieamphpaaW.PrintLast Probe Go.Proofs.Ytjgoddieamphpaa.PProbeActs
set_option maxRecDepth 100000
set_option linter.unusedVariables false
def strAt (l : List ByteArray) (i : Nat) : ByteArray := l.getD i ⟨#[]⟩
/-- Whatever has been made since, and at p, b, m, which are newer: a text of a row that came in is still there. -/
structure PT (w0 w : World) (vals : List ByteArray) (p b m n : Nat) (L L2 : List S98) : Prop where
  t : TLS (fun x => strAt vals x.toNat) w p b n L
  r : ∃ v, RM w m n L2 v
  f : Frm (fun _ => False) w0 w
  hp : w0.heap.size ≤ p
  hb : w0.heap.size ≤ b
  hm : w0.heap.size ≤ m
section
variable {w0 w : World} {vals : List ByteArray} {p b m n : Nat} {L L2 : List S98}
theorem PT.blkm (h : PT w0 w vals p b m n L L2) : ∃ cs, w.heap[m]? = some (.cells cs 31 (0, 0)) := by
  obtain ⟨v, hv⟩ := h.r
  exact ⟨_, hv.hd⟩
theorem PT.put_t (h : PT w0 w vals p b m n L L2) (k : ByteArray) (hs : k.size ≤ 9223372036854775807) (i : Nat) :
    Calls Try.prog 15 #[.pointer (some ⟨p, 0, none⟩), .string k, .string (strAt vals i)] w fun e w' => e = .returned (.int .i64 (putC L n k)) ∧ PT w0 w' vals p b m n (putL L n k i) L2 := by
  refine (stput h.t k hs (i : Int) (strAt vals i) (by rw [Int.toNat_natCast])).mono ?_
  rintro e w' ⟨a, c, d⟩
  obtain ⟨v, hv⟩ := h.r
  obtain ⟨⟨c1, b1⟩, ⟨c2, b2⟩⟩ := stl_blk h.t
  refine ⟨a, c, ⟨v, hv.frm d ?_⟩, h.f.then d (fun i hi hk => by have := h.hp; have := h.hb; rcases hk with rfl | rfl <;> omega), h.hp, h.hb, h.hm⟩
  rintro i (rfl | rfl) _
  · exact ⟨_, _, b1, by decide, by decide⟩
  · exact ⟨_, _, b2, by decide, by decide⟩
theorem PT.put_r (h : PT w0 w vals p b m n L L2) (hn : n ≤ 5000) (k : ByteArray) (i : Nat) :
    Calls Try.prog 16 #[.pointer (some ⟨m, 0, none⟩), .string k, .int .i64 (i : Int)] w fun e w' => e = .returned (.int .i64 (putC L2 n k)) ∧ PT w0 w' vals p b m n L (putL L2 n k i) := by
  obtain ⟨v, hv⟩ := h.r
  refine (rput_any hv k i hn).mono ?_
  rintro e w' ⟨a, c, d⟩
  obtain ⟨⟨c1, b1⟩, ⟨c2, b2⟩⟩ := stl_blk h.t
  refine ⟨a, stl_frm h.t d ?_ ?_, c, h.f.then d (fun i hi hk => by have := h.hm; subst hk; omega), h.hp, h.hb, h.hm⟩
  · rintro rfl
    have := blk_ne b1 hv.hd (by decide); exact this rfl
  · rintro rfl
    have := blk_ne b2 hv.hd (by decide); exact this rfl
theorem PT.get_t (h : PT w0 w vals p b m n L L2) (k : ByteArray) (hs : k.size ≤ 9223372036854775807) :
    Calls Try.prog 17 #[.pointer (some ⟨p, 0, none⟩), .string k] w fun e w' => e = .returned (.tuple #[.string (match idx L k with | some i => strAt vals (L.getD i z98).f1.toNat | none => ⟨#[]⟩), .bool (hasB L k)]) ∧ w = w' :=
  stget h.t k hs ⟨#[]⟩ rfl
theorem PT.get_r (h : PT w0 w vals p b m n L L2) (k : ByteArray) :
    Calls Try.prog 18 #[.pointer (some ⟨m, 0, none⟩), .string k] w fun e w' => e = .returned (.tuple #[.int .i64 (getV L2 k), .bool (hasB L2 k)]) ∧ PT w0 w' vals p b m n L L2 := by
  obtain ⟨v, hv⟩ := h.r
  refine (rget_any hv k).mono ?_
  rintro e w' ⟨a, q, rfl⟩
  exact ⟨a, stl_frm h.t ((Frm.refl (fun _ => False) w).drewN q) (fun x => x) (fun x => x), ⟨v, hv.drewN q⟩, h.f.drewN q, h.hp, h.hb, h.hm⟩
theorem PT.get_t_some (h : PT w0 w vals p b m n L L2) (k : ByteArray) (hs : k.size ≤ 9223372036854775807) (i x : Nat) (hi : idx L k = some i) (hx : (L.getD i z98).f1 = (x : Nat)) :
    Calls Try.prog 17 #[.pointer (some ⟨p, 0, none⟩), .string k] w fun e w' => e = .returned (.tuple #[.string (strAt vals x), .bool true]) ∧ w = w' := by
  refine (h.get_t k hs).mono ?_
  rintro e w' ⟨a, c⟩
  rw [hi] at a
  rw [show hasB L k = true by unfold hasB; rw [hi]; rfl] at a
  have a' : e = .returned (.tuple #[.string (strAt vals (L.getD i z98).f1.toNat), .bool true]) := a
  rw [hx, Int.toNat_natCast] at a'
  exact ⟨a', c⟩
theorem PT.get_t_none (h : PT w0 w vals p b m n L L2) (k : ByteArray) (hs : k.size ≤ 9223372036854775807) (hi : idx L k = none) :
    Calls Try.prog 17 #[.pointer (some ⟨p, 0, none⟩), .string k] w fun e w' => e = .returned (.tuple #[.string ⟨#[]⟩, .bool false]) ∧ w = w' := by
  refine (h.get_t k hs).mono ?_
  rintro e w' ⟨a, c⟩
  rw [hi] at a
  rw [show hasB L k = false by unfold hasB; rw [hi]; rfl] at a
  exact ⟨a, c⟩
theorem PT.get_r_some (h : PT w0 w vals p b m n L L2) (k : ByteArray) (i x : Nat) (hi : idx L2 k = some i) (hx : (L2.getD i z98).f1 = (x : Nat)) :
    Calls Try.prog 18 #[.pointer (some ⟨m, 0, none⟩), .string k] w fun e w' => e = .returned (.tuple #[.int .i64 (x : Nat), .bool true]) ∧ PT w0 w' vals p b m n L L2 := by
  refine (h.get_r k).mono ?_
  rintro e w' ⟨a, c⟩
  rw [show hasB L2 k = true by unfold hasB; rw [hi]; rfl, show getV L2 k = (x : Nat) by unfold getV; rw [hi]; exact hx] at a
  exact ⟨a, c⟩
theorem PT.get_r_none (h : PT w0 w vals p b m n L L2) (k : ByteArray) (hi : idx L2 k = none) :
    Calls Try.prog 18 #[.pointer (some ⟨m, 0, none⟩), .string k] w fun e w' => e = .returned (.tuple #[.int .i64 0, .bool false]) ∧ PT w0 w' vals p b m n L L2 := by
  refine (h.get_r k).mono ?_
  rintro e w' ⟨a, c⟩
  rw [show hasB L2 k = false by unfold hasB; rw [hi]; rfl, show getV L2 k = 0 by unfold getV; rw [hi]] at a
  exact ⟨a, c⟩
theorem PT.len (h : PT w0 w vals p b m n L L2) :
    Calls Try.prog 19 #[.pointer (some ⟨p, 0, none⟩)] w fun e w' => e = .returned (.int .i64 (L.length : Nat)) ∧ w = w' := stlen h.t
theorem PT.drewN (h : PT w0 w vals p b m n L L2) (q : Nat) : PT w0 (w.drewN q) vals p b m n L L2 := by
  obtain ⟨v, hv⟩ := h.r
  exact ⟨stl_frm h.t ((Frm.refl (fun _ => False) w).drewN q) (fun x => x) (fun x => x), ⟨v, hv.drewN q⟩, h.f.drewN q, h.hp, h.hb, h.hm⟩
theorem PT.drew (h : PT w0 w vals p b m n L L2) : PT w0 w.drew vals p b m n L L2 := by
  obtain ⟨v, hv⟩ := h.r
  exact ⟨stl_frm h.t ((Frm.refl (fun _ => False) w).drew) (fun x => x) (fun x => x), ⟨v, ⟨hv.hd, Kd.R_move hv.row (fun _ _ => rfl), hv.few⟩⟩, h.f.drew, h.hp, h.hb, h.hm⟩
theorem PT.cell (h : PT w0 w vals p b m n L L2) {a : Addr} {v : Value} (hc : w0.cell? a = some v) : w.cell? a = some v := h.f.cell hc (fun x => x)
end
/-- What a row of texts that came in holds. -/
theorem texts_at {w : World} {A : Option Addr} {l : List ByteArray} (h : Kd.C Kd.string w A l.length l) (i : Nat) (hi : i < l.length) : ∃ ad, A = some ad ∧ w.cell? (ad.add i) = some (.string (strAt l i)) := by
  obtain ⟨ad, c, e, _, hK, hc0⟩ := Kd.C_get h (⟨#[]⟩ : ByteArray) (i : Int) (by omega) (by omega)
  have hK' : c = [.string (l.getD (i : Int).toNat ⟨#[]⟩)] := hK
  subst hK'
  refine ⟨ad, e, ?_⟩
  have := hc0 0 _ rfl
  rw [Int.toNat_natCast] at this
  have e1 : i * Kd.string.sz + 0 = i := by show i * 1 + 0 = i; omega
  rw [e1] at this
  exact this
end Go.Proofs.Ytjgoddieamphpaa.Obj
