/- Tables: keys in order, the library's sort, the document's. -/
import Derived.Test.YtjgoddieamphpaaMA
import Derived.Sort.OwnSorted
import Derived.Test.YtjgoddieamphpaaPProbeActsx0
import Derived.Test.YtjgoddieamphpaaPProbeActsx2
import Derived.Sort.KeysCollected
import Derived.Sort.Walk0
namespace Go.Proofs.Ytjgoddieamphpaa.Obj
open Go.RowKit Go.Proofs.YtjgoddieamphpaaW.PrintWords Go.Proofs.YtjgoddieamphpaaW.PrintLast Probe Go.Proofs.Ytjgoddieamphpaa.PProbeActs
set_option maxRecDepth 100000
set_option linter.unusedVariables false
/-- One key alone stands at its home. -/
theorem alone_home {α : Type} {N : Nat} {h : ByteArray → Nat} {sl : List (Option (Ent α))} (w : WF h N sl) (hN : 2 ≤ N) (h1 : (items sl).length = 1) {i : Nat} {k : ByteArray} {v : α} (hi : i < N) (he : at_ sl i = some (k, v)) : i = h k := by
  have hh := w.home k
  apply Classical.byContradiction
  intro hne
  have hd : 1 ≤ dist N (h k) i := by unfold dist cyc; split <;> omega
  have hr := w.reach i k v hi he 1 (Nat.le_refl _) hd
  have hq : cyc N (i + N - 1) ≠ i := by unfold cyc; split <;> omega
  cases hx : at_ sl (cyc N (i + N - 1)) with
  | none => exact hr hx
  | some x =>
    have e1 := items_out sl i _ he
    have hl : i < sl.length := by rw [w.len]; exact hi
    have hx2 : at_ (sl.set i none) (cyc N (i + N - 1)) = some x := by rw [at_set _ _ _ _ hl, if_neg (Ne.symm hq)]; exact hx
    have e2 := items_out _ _ _ hx2
    have := e1.length_eq
    have := e2.length_eq
    simp only [List.length_cons] at *
    omega
theorem iat_one {φ : Int → Int} {w : World} {p b : Nat} {c : S98} (h : TLI φ w p b 1 [c]) (hs : c.f0.size ≤ 9223372036854775807) :
    Calls Try.prog 50 #[.pointer (some ⟨p, 0, none⟩), .string c.f0] w fun e w' => e = .returned (.int .i64 (slotN c.f0 2 : Nat)) ∧ w = w' := by
  obtain ⟨sl, h1, h2⟩ := h
  have hi : idx [c] c.f0 = some 0 := if_pos rfl
  obtain ⟨q, hq, he⟩ := itl_hit h1 h2 hi
  have hlen : (items sl).length = 1 := by rw [h2.length_eq]; rfl
  have := alone_home h1.wf (by omega) hlen hq he
  refine (iat_hit h1 hs he hq).mono ?_
  rintro e w' ⟨a, c⟩
  exact ⟨by rw [a, this], c⟩
theorem new_to {F : Nat → Prop} {a b c : World} {p q : Nat} (h : Frm F a b) (k : Frm (fun i => i = p ∨ i = q) b c) (hp : a.heap.size ≤ p) (hq : a.heap.size ≤ q) : Frm F a c :=
  h.then k (fun i hi hk => by rcases hk with rfl | rfl <;> omega)
theorem itnew1 (w : World) : Calls Try.prog 20 #[.int .i64 1] w fun e w' => ∃ p b, e = .returned (.tuple #[.pointer (some ⟨p, 0, none⟩), .int .i64 0]) ∧ TLI (fun x => x) w' p b 1 [] ∧ w.heap.size ≤ p ∧ w.heap.size ≤ b ∧ Frm (fun _ => False) w w' := itnew (φ := fun x => x) 1 (by omega) (by omega) w
def kA : ByteArray := ⟨#[97]⟩
def kB : ByteArray := ⟨#[98]⟩
section
variable {w : World} {p b : Nat}
theorem aw_get1 (h : TLI (fun x => x) w p b 1 [⟨⟨#[97]⟩, 9, 0⟩]) : Calls Try.prog 49 #[.pointer (some ⟨p, 0, none⟩), .string ⟨#[97]⟩] w fun e w' => e = .returned (.tuple #[.int .i64 9, .bool true]) ∧ w = w' := itget h ⟨#[97]⟩ (by decide) 0 rfl
theorem aw_get2 (h : TLI (fun x => x) w p b 1 [⟨⟨#[97]⟩, 9, 0⟩]) : Calls Try.prog 49 #[.pointer (some ⟨p, 0, none⟩), .string ⟨#[98]⟩] w fun e w' => e = .returned (.tuple #[.int .i64 0, .bool false]) ∧ w = w' := itget h ⟨#[98]⟩ (by decide) 0 rfl
theorem aw_len (h : TLI (fun x => x) w p b 1 [⟨⟨#[97]⟩, 9, 0⟩]) : Calls Try.prog 23 #[.pointer (some ⟨p, 0, none⟩)] w fun e w' => e = .returned (.int .i64 1) ∧ w = w' := itlen h
theorem aw_slots (h : TLI (fun x => x) w p b 1 [⟨⟨#[97]⟩, 9, 0⟩]) : Calls Try.prog 62 #[.pointer (some ⟨p, 0, none⟩)] w fun e w' => e = .returned (.int .i64 2) ∧ w = w' := by
  obtain ⟨sl, h1, _⟩ := h
  exact islots_any h1
theorem aw_at1 (h : TLI (fun x => x) w p b 1 [⟨⟨#[97]⟩, 9, 0⟩]) : Calls Try.prog 50 #[.pointer (some ⟨p, 0, none⟩), .string ⟨#[97]⟩] w fun e w' => e = .returned (.int .i64 (slotN ⟨#[97]⟩ 2 : Nat)) ∧ w = w' := by
  have := iat_one (c := ⟨⟨#[97]⟩, 9, 0⟩) h (show (⟨#[97]⟩ : ByteArray).size ≤ 9223372036854775807 from by decide)
  exact this
theorem aw_at2 (h : TLI (fun x => x) w p b 1 [⟨⟨#[97]⟩, 9, 0⟩]) : Calls Try.prog 50 #[.pointer (some ⟨p, 0, none⟩), .string ⟨#[98]⟩] w fun e w' => e = .returned (.int .i64 (-1)) ∧ w = w' := by
  obtain ⟨sl, h1, h2⟩ := h
  exact iat_miss h1 (by decide) (itl_miss h2 (by decide))
theorem aw_slot (w : World) : Calls Try.prog 63 #[.string ⟨#[97]⟩, .int .i64 2] w fun e w' => e = .returned (.int .i64 (slotN ⟨#[97]⟩ 2 : Nat)) ∧ w = w' := rslot_any ⟨#[97]⟩ 2 w (by decide) (by omega) (by omega)
end
theorem awake_any (w : World) : Calls Try.prog 13 #[] w fun e w' => e = .returned (.bool true) ∧ Frm (fun _ => False) w w' := by
  have n1 := inew_bad 0 (.inl (by omega))
  go_enter Try.func13, Try.ntmps13
  go_wp2_with fail
  (with_reducible refine (itnew1 _).mono ?_); rintro e w1 ⟨p, b, rfl, ht, hp, hb, hf⟩
  have HT := Aside0.mk ht
  have HF := Aside0.mk hf
  clear ht hf
  go_wp2_with fail
  (with_reducible refine (n1 _).mono ?_); rintro e w' ⟨rfl, rfl⟩
  clear n1
  go_wp2_with fail
  (with_reducible refine (itput HT.out ⟨#[97]⟩ (by decide) 7 7 rfl).mono ?_); rintro e w2 ⟨rfl, ht2, hf2⟩
  have HT2 := Aside0.mk ht2
  have HF2 := Aside0.mk (new_to HF.out hf2 hp hb)
  clear ht2 hf2 HT HF
  go_wp2_with fail
  (with_reducible refine (itput HT2.out ⟨#[98]⟩ (by decide) 8 8 rfl).mono ?_); rintro e w3 ⟨rfl, ht3, hf3⟩
  have HT3 := Aside0.mk ht3
  have HF3 := Aside0.mk (new_to HF2.out hf3 hp hb)
  clear ht3 hf3 HT2 HF2
  go_wp2_with fail
  (with_reducible refine (itput HT3.out ⟨#[97]⟩ (by decide) 9 9 rfl).mono ?_); rintro e w4 ⟨rfl, ht4, hf4⟩
  have HT4 := Aside0.mk (show TLI (fun x => x) w4 p b 1 [⟨⟨#[97]⟩, 9, 0⟩] from ht4)
  have HF4 := Aside0.mk (new_to HF3.out hf4 hp hb)
  clear ht4 hf4 HT3 HF3
  rw [show putC [] 1 ⟨#[97]⟩ = 0 from by decide, show putC (putL [] 1 ⟨#[97]⟩ 7) 1 ⟨#[98]⟩ = 6 from by decide, show putC (putL (putL [] 1 ⟨#[97]⟩ 7) 1 ⟨#[98]⟩ 8) 1 ⟨#[97]⟩ = 0 from by decide]
  go_wp2_with fail
  (with_reducible refine (aw_get1 HT4.out).mono ?_); rintro e w5 ⟨rfl, rfl⟩
  go_wp2_with fail
  (with_reducible refine (aw_get2 HT4.out).mono ?_); rintro e w5 ⟨rfl, rfl⟩
  go_wp2_with fail
  (with_reducible refine (aw_len HT4.out).mono ?_); rintro e w5 ⟨rfl, rfl⟩
  go_wp2_with fail
  (with_reducible refine (aw_slots HT4.out).mono ?_); rintro e w5 ⟨rfl, rfl⟩
  go_wp2_with fail
  (with_reducible refine (aw_at1 HT4.out).mono ?_); rintro e w5 ⟨rfl, rfl⟩
  go_wp2_with fail
  (with_reducible refine (aw_slot _).mono ?_); rintro e w5 ⟨rfl, rfl⟩
  go_wp2_with fail
  (with_reducible refine (aw_at2 HT4.out).mono ?_); rintro e w5 ⟨rfl, rfl⟩
  go_wp2_with fail
  (with_reducible refine (iput_nil ⟨#[97]⟩ 1 _).mono ?_); rintro e w5 ⟨rfl, rfl⟩
  go_wp2_with fail
  (with_reducible refine (iat_nil ⟨#[97]⟩ _).mono ?_); rintro e w5 ⟨rfl, rfl⟩
  go_wp2_with fail
  (with_reducible refine (ilen_nil _).mono ?_); rintro e w5 ⟨rfl, rfl⟩
  go_wp2
  go_ret
  exact ⟨rfl, HF4.out⟩
end Go.Proofs.Ytjgoddieamphpaa.Obj
namespace Go.Proofs.Ytjgoddieamphpaa.Obj
open Go.RowKit Go.Proofs.YtjgoddieamphpaaW.PrintWords Go.Proofs.YtjgoddieamphpaaW.PrintLast Probe Go.Proofs.Ytjgoddieamphpaa.PProbeActs
set_option maxRecDepth 100000
set_option linter.unusedVariables false
def strAt (l : List ByteArray) (i : Nat) : ByteArray := l.getD i ⟨#[]⟩
/-- Whatever has been made since, and at p, b, m, which are newer: a text of a row that came in is still there. -/
structure PT (w0 w : World) (vals : List ByteArray) (p b m n : Nat) (L L2 : List S98) : Prop where
  t : TLS (fun x => strAt vals x.toNat) w p b n L
  r : ∃ v, RM w m n L2 v
  f : Frm (fun _ => False) w0 w
  hp : w0.heap.size ≤ p
  hb : w0.heap.size ≤ b
  hm : w0.heap.size ≤ m
section
variable {w0 w : World} {vals : List ByteArray} {p b m n : Nat} {L L2 : List S98}
theorem PT.blkm (h : PT w0 w vals p b m n L L2) : ∃ cs, w.heap[m]? = some (.cells cs 31 (0, 0)) := by
  obtain ⟨v, hv⟩ := h.r
  exact ⟨_, hv.hd⟩
theorem PT.put_t (h : PT w0 w vals p b m n L L2) (k : ByteArray) (hs : k.size ≤ 9223372036854775807) (i : Nat) :
    Calls Try.prog 15 #[.pointer (some ⟨p, 0, none⟩), .string k, .string (strAt vals i)] w fun e w' => e = .returned (.int .i64 (putC L n k)) ∧ PT w0 w' vals p b m n (putL L n k i) L2 := by
  refine (stput h.t k hs (i : Int) (strAt vals i) (by rw [Int.toNat_natCast])).mono ?_
  rintro e w' ⟨a, c, d⟩
  obtain ⟨v, hv⟩ := h.r
  obtain ⟨⟨c1, b1⟩, ⟨c2, b2⟩⟩ := stl_blk h.t
  refine ⟨a, c, ⟨v, hv.frm d ?_⟩, h.f.then d (fun i hi hk => by have := h.hp; have := h.hb; rcases hk with rfl | rfl <;> omega), h.hp, h.hb, h.hm⟩
  rintro i (rfl | rfl) _
  · exact ⟨_, _, b1, by decide, by decide⟩
  · exact ⟨_, _, b2, by decide, by decide⟩
theorem PT.put_r (h : PT w0 w vals p b m n L L2) (hn : n ≤ 5000) (k : ByteArray) (i : Nat) :
    Calls Try.prog 16 #[.pointer (some ⟨m, 0, none⟩), .string k, .int .i64 (i : Int)] w fun e w' => e = .returned (.int .i64 (putC L2 n k)) ∧ PT w0 w' vals p b m n L (putL L2 n k i) := by
  obtain ⟨v, hv⟩ := h.r
  refine (rput_any hv k i hn).mono ?_
  rintro e w' ⟨a, c, d⟩
  obtain ⟨⟨c1, b1⟩, ⟨c2, b2⟩⟩ := stl_blk h.t
  refine ⟨a, stl_frm h.t d ?_ ?_, c, h.f.then d (fun i hi hk => by have := h.hm; subst hk; omega), h.hp, h.hb, h.hm⟩
  · rintro rfl
    have := blk_ne b1 hv.hd (by decide); exact this rfl
  · rintro rfl
    have := blk_ne b2 hv.hd (by decide); exact this rfl
theorem PT.get_t (h : PT w0 w vals p b m n L L2) (k : ByteArray) (hs : k.size ≤ 9223372036854775807) :
    Calls Try.prog 17 #[.pointer (some ⟨p, 0, none⟩), .string k] w fun e w' => e = .returned (.tuple #[.string (match idx L k with | some i => strAt vals (L.getD i z98).f1.toNat | none => ⟨#[]⟩), .bool (hasB L k)]) ∧ w = w' :=
  stget h.t k hs ⟨#[]⟩ rfl
theorem PT.get_r (h : PT w0 w vals p b m n L L2) (k : ByteArray) :
    Calls Try.prog 18 #[.pointer (some ⟨m, 0, none⟩), .string k] w fun e w' => e = .returned (.tuple #[.int .i64 (getV L2 k), .bool (hasB L2 k)]) ∧ PT w0 w' vals p b m n L L2 := by
  obtain ⟨v, hv⟩ := h.r
  refine (rget_any hv k).mono ?_
  rintro e w' ⟨a, q, rfl⟩
  exact ⟨a, stl_frm h.t ((Frm.refl (fun _ => False) w).drewN q) (fun x => x) (fun x => x), ⟨v, hv.drewN q⟩, h.f.drewN q, h.hp, h.hb, h.hm⟩
theorem PT.get_t_some (h : PT w0 w vals p b m n L L2) (k : ByteArray) (hs : k.size ≤ 9223372036854775807) (i x : Nat) (hi : idx L k = some i) (hx : (L.getD i z98).f1 = (x : Nat)) :
    Calls Try.prog 17 #[.pointer (some ⟨p, 0, none⟩), .string k] w fun e w' => e = .returned (.tuple #[.string (strAt vals x), .bool true]) ∧ w = w' := by
  refine (h.get_t k hs).mono ?_
  rintro e w' ⟨a, c⟩
  rw [hi] at a
  rw [show hasB L k = true by unfold hasB; rw [hi]; rfl] at a
  have a' : e = .returned (.tuple #[.string (strAt vals (L.getD i z98).f1.toNat), .bool true]) := a
  rw [hx, Int.toNat_natCast] at a'
  exact ⟨a', c⟩
theorem PT.get_t_none (h : PT w0 w vals p b m n L L2) (k : ByteArray) (hs : k.size ≤ 9223372036854775807) (hi : idx L k = none) :
    Calls Try.prog 17 #[.pointer (some ⟨p, 0, none⟩), .string k] w fun e w' => e = .returned (.tuple #[.string ⟨#[]⟩, .bool false]) ∧ w = w' := by
  refine (h.get_t k hs).mono ?_
  rintro e w' ⟨a, c⟩
  rw [hi] at a
  rw [show hasB L k = false by unfold hasB; rw [hi]; rfl] at a
  exact ⟨a, c⟩
theorem PT.get_r_some (h : PT w0 w vals p b m n L L2) (k : ByteArray) (i x : Nat) (hi : idx L2 k = some i) (hx : (L2.getD i z98).f1 = (x : Nat)) :
    Calls Try.prog 18 #[.pointer (some ⟨m, 0, none⟩), .string k] w fun e w' => e = .returned (.tuple #[.int .i64 (x : Nat), .bool true]) ∧ PT w0 w' vals p b m n L L2 := by
  refine (h.get_r k).mono ?_
  rintro e w' ⟨a, c⟩
  rw [show hasB L2 k = true by unfold hasB; rw [hi]; rfl, show getV L2 k = (x : Nat) by unfold getV; rw [hi]; exact hx] at a
  exact ⟨a, c⟩
theorem PT.get_r_none (h : PT w0 w vals p b m n L L2) (k : ByteArray) (hi : idx L2 k = none) :
    Calls Try.prog 18 #[.pointer (some ⟨m, 0, none⟩), .string k] w fun e w' => e = .returned (.tuple #[.int .i64 0, .bool false]) ∧ PT w0 w' vals p b m n L L2 := by
  refine (h.get_r k).mono ?_
  rintro e w' ⟨a, c⟩
  rw [show hasB L2 k = false by unfold hasB; rw [hi]; rfl, show getV L2 k = 0 by unfold getV; rw [hi]] at a
  exact ⟨a, c⟩
theorem PT.len (h : PT w0 w vals p b m n L L2) :
    Calls Try.prog 19 #[.pointer (some ⟨p, 0, none⟩)] w fun e w' => e = .returned (.int .i64 (L.length : Nat)) ∧ w = w' := stlen h.t
theorem PT.drewN (h : PT w0 w vals p b m n L L2) (q : Nat) : PT w0 (w.drewN q) vals p b m n L L2 := by
  obtain ⟨v, hv⟩ := h.r
  exact ⟨stl_frm h.t ((Frm.refl (fun _ => False) w).drewN q) (fun x => x) (fun x => x), ⟨v, hv.drewN q⟩, h.f.drewN q, h.hp, h.hb, h.hm⟩
theorem PT.drew (h : PT w0 w vals p b m n L L2) : PT w0 w.drew vals p b m n L L2 := by
  obtain ⟨v, hv⟩ := h.r
  exact ⟨stl_frm h.t ((Frm.refl (fun _ => False) w).drew) (fun x => x) (fun x => x), ⟨v, ⟨hv.hd, Kd.R_move hv.row (fun _ _ => rfl), hv.few⟩⟩, h.f.drew, h.hp, h.hb, h.hm⟩
theorem PT.cell (h : PT w0 w vals p b m n L L2) {a : Addr} {v : Value} (hc : w0.cell? a = some v) : w.cell? a = some v := h.f.cell hc (fun x => x)
end
/-- What a row of texts that came in holds. -/
theorem texts_at {w : World} {A : Option Addr} {l : List ByteArray} (h : Kd.C Kd.string w A l.length l) (i : Nat) (hi : i < l.length) : ∃ ad, A = some ad ∧ w.cell? (ad.add i) = some (.string (strAt l i)) := by
  obtain ⟨ad, c, e, _, hK, hc0⟩ := Kd.C_get h (⟨#[]⟩ : ByteArray) (i : Int) (by omega) (by omega)
  have hK' : c = [.string (l.getD (i : Int).toNat ⟨#[]⟩)] := hK
  subst hK'
  refine ⟨ad, e, ?_⟩
  have := hc0 0 _ rfl
  rw [Int.toNat_natCast] at this
  have e1 : i * Kd.string.sz + 0 = i := by show i * 1 + 0 = i; omega
  rw [e1] at this
  exact this
end Go.Proofs.Ytjgoddieamphpaa.Obj
namespace Go.Proofs.Ytjgoddieamphpaa.Obj
open Go.RowKit Go.Proofs.YtjgoddieamphpaaW.PrintWords Go.Proofs.YtjgoddieamphpaaW.PrintLast Probe Go.Proofs.Ytjgoddieamphpaa.PProbeActs
set_option maxRecDepth 100000
set_option linter.unusedVariables false
theorem info_str : (Try.prog.info? 9).map (fun i => (i.zero, i.size, i.bytes)) = some (some (.string ⟨#[]⟩), 1, 16) := by kernel_rfl
/-- A row of one-cell elements, cut short at its end. -/
theorem row_take {α : Type} (enc : α → Value) (h1 : ∀ x, (enc x).oneCell' = true) {e base : Nat} {w : World} {g n cap : Nat} {xs : List α} (h : Kd.R (Kd.scalar enc h1) e w base (fun _ => True) (.slice (some ⟨g, 0, none⟩) n cap) xs) (k : Nat) (hk : k ≤ n) :
    Kd.R (Kd.scalar enc h1) e w base (fun _ => True) (.slice (some ⟨g, 0, none⟩) k cap) (xs.take k) := by
  obtain ⟨hok, inner, hown, hr⟩ := h
  have hn : xs.length = n := by
    obtain ⟨A', c', e', _⟩ := Kd.R_reads (show Kd.R (Kd.scalar enc h1) e w base (fun _ => True) (.slice (some ⟨g, 0, none⟩) n cap) xs from ⟨hok, inner, hown, hr⟩)
    injection e' with _ e2 _
    exact e2.symm
  have hxs : inner.length = n := by have h3 := hr.1; have : (Kd.scalar enc h1).sz = 1 := rfl; rw [this] at h3; omega
  refine ⟨fun _ _ => trivial, inner.take k, ?_, ?_⟩
  · refine ⟨by rw [List.length_take, hxs, List.length_take, hn]; show _ = _ * 1; omega, .inr ?_⟩
    rcases hown.2 with ⟨hv, _⟩ | ⟨g', cap', cur, hv, hb, hh, q1, q2, q3, q4⟩
    · cases hv
    · injection hv with ha _ hc
      injection ha with ha
      injection ha with hg
      subst hg; subst hc
      refine ⟨g, cap, cur, by rw [List.length_take, hn, Nat.min_eq_left hk], hb, hh, by rw [List.length_take, hn]; omega, q2, q3, ?_⟩
      rw [← q4, List.length_take, hn, Nat.min_eq_left hk, List.take_take]
      have : (Kd.scalar enc h1).sz = 1 := rfl
      rw [this, Nat.mul_one, Nat.mul_one, Nat.min_eq_left hk]
  · refine ⟨by rw [List.length_take, List.length_take, hxs, hn]; show _ = _ * 1; omega, fun j p hj => ?_⟩
    have hjk : j < k := by have := (List.getElem?_eq_some_iff.1 hj).1; rw [List.length_take] at this; omega
    rw [List.getElem?_take_of_lt hjk] at hj
    have := hr.2 j p hj
    have e1 : (Kd.scalar enc h1).sz = 1 := rfl
    rw [e1] at this ⊢
    rw [List.drop_take]
    rw [List.take_take, Nat.min_eq_left (by omega)]
    have hv : (Value.slice (some ⟨g, 0, none⟩) k cap).ownBlock = (Value.slice (some ⟨g, 0, none⟩) n cap).ownBlock := rfl
    rw [hv]
    exact this
/-- The row 'have' beside the table. -/
structure PF (w0 w : World) (p b n : Nat) (L : List S98) (v : Value) : Prop where
  t : TLI (fun x => x) w p b n L
  r : Kd.R Kd.string 9 w w0.heap.size (fun _ => True) v (L.map (·.f0))
  f : Frm (fun _ => False) w0 w
  hp : w0.heap.size ≤ p
  hb : w0.heap.size ≤ b
theorem str_frm {w w1 : World} {base : Nat} {v : Value} {xs : List ByteArray} (h : Kd.R Kd.string 9 w base (fun _ => True) v xs) {F : Nat → Prop} (k : Frm F w w1) (hF : ∀ b, F b → b < w.heap.size → ∃ cs t, w.heap[b]? = some (.cells cs t (0, 0)) ∧ t ≠ 9) : Kd.R Kd.string 9 w1 base (fun _ => True) v xs := by
  refine Kd.R_mono (Kd.R_step (Kd.R_bound h) ?_) (fun _ _ => trivial)
  rintro b ⟨_, _, _, q, hq, cells, hc⟩ hlt
  refine k.block b hlt fun hf => ?_
  obtain ⟨cs, t, hb, h2⟩ := hF b hf hlt
  rw [hc] at hb
  injection hb with hb; injection hb with _ hb _
  have : q = 9 := by simpa [Kd.string, Kd.scalar] using hq
  exact h2 (hb ▸ this)
section
variable {w0 w : World} {p b n : Nat} {L : List S98} {v : Value}
theorem PF.len (h : PF w0 w p b n L v) : ∃ A c, v = .slice A L.length c := by
  obtain ⟨A, c, e⟩ := Kd.R_slice h.r
  rw [List.length_map] at e
  exact ⟨A, c, e⟩
theorem PF.moved {w1 : World} {L' : List S98} (h : PF w0 w p b n L v) (t : TLI (fun x => x) w1 p b n L') (k : Frm (fun i => i = p ∨ i = b) w w1) (hm : L'.map (·.f0) = L.map (·.f0)) : PF w0 w1 p b n L' v := by
  obtain ⟨⟨c1, b1⟩, ⟨c2, b2⟩⟩ := itl_blk h.t
  refine ⟨t, ?_, h.f.then k (fun i hi hk => by have := h.hp; have := h.hb; rcases hk with rfl | rfl <;> omega), h.hp, h.hb⟩
  rw [hm]
  refine str_frm h.r k ?_
  rintro i (rfl | rfl) _
  · exact ⟨_, _, b1, by decide⟩
  · exact ⟨_, _, b2, by decide⟩
theorem PF.drewN (h : PF w0 w p b n L v) (q : Nat) : PF w0 (w.drewN q) p b n L v :=
  ⟨itl_frm h.t ((Frm.refl (fun _ => False) w).drewN q) (fun x => x) (fun x => x), Kd.R_move h.r (fun _ _ => rfl), h.f.drewN q, h.hp, h.hb⟩
theorem PF.cell (h : PF w0 w p b n L v) {a : Addr} {u : Value} (hc : w0.cell? a = some u) : w.cell? a = some u := h.f.cell hc (fun x => x)
theorem PF.at_ {A : Option Addr} {m c : Nat} (h : PF w0 w p b n L (.slice A m c)) (i : Nat) (hi : i < L.length) : ∃ ad, A = some ad ∧ w.cell? (ad.add i) = some (.string (L.getD i z98).f0) := by
  obtain ⟨A', c', e, _, hr⟩ := Kd.R_reads h.r
  injection e with e1 e2 e3
  subst e1
  have hr' : Kd.C Kd.string w A (L.map (·.f0)).length (L.map (·.f0)) := hr
  obtain ⟨ad, e, hc⟩ := texts_at hr' i (by simpa using hi)
  refine ⟨ad, e, ?_⟩
  rw [hc]
  congr 2
  unfold strAt
  rw [List.getD_eq_getElem?_getD, List.getElem?_map, List.getElem?_eq_getElem hi, getD_at L i hi]; rfl
end
theorem putL_keys (L : List S98) (n : Nat) (k : ByteArray) (x : Int) : (putL L n k x).map (·.f0) = match idx L k with | some _ => L.map (·.f0) | none => if n ≤ L.length then L.map (·.f0) else L.map (·.f0) ++ [k] := by
  unfold putL
  cases hi : idx L k with
  | some i =>
    obtain ⟨hl, _⟩ := idx_some hi
    rw [List.map_set]
    apply List.ext_getElem (by simp)
    intro j h1 h2
    rw [List.getElem_set]
    split
    · rename_i e; subst e; rw [List.getElem_map, getD_at L i hl]
    · rfl
  | none =>
    show (if n ≤ L.length then L else L ++ [⟨k, x, 0⟩]).map (·.f0) = if n ≤ L.length then L.map (·.f0) else L.map (·.f0) ++ [k]
    by_cases h : n ≤ L.length
    · rw [if_pos h, if_pos h]
    · rw [if_neg h, if_neg h]; simp
theorem idx_nodup {L : List S98} (hn : (L.map (·.f0)).Nodup) (i : Nat) (hi : i < L.length) : idx L (L.getD i z98).f0 = some i := by
  induction L generalizing i with
  | nil => simp at hi
  | cons c t ih =>
    rw [List.map_cons, List.nodup_cons] at hn
    cases i with
    | zero => exact if_pos rfl
    | succ i =>
      have hi' : i < t.length := by simpa using hi
      have e : (c :: t).getD (i + 1) z98 = t.getD i z98 := by simp
      rw [e]
      have hne : c.f0 ≠ (t.getD i z98).f0 := by
        intro he
        refine hn.1 ?_
        rw [he]
        exact List.mem_map.2 ⟨t.getD i z98, by rw [getD_at t i hi']; exact List.getElem_mem hi', rfl⟩
      show (if c.f0 = _ then _ else _) = _
      rw [if_neg hne, ih hn.2 i hi']
      rfl
theorem drop_last (L : List S98) (h : 0 < L.length) : dropAt L (L.length - 1) = L.take (L.length - 1) := by
  unfold dropAt
  rw [List.drop_eq_nil_of_le (by omega), List.append_nil]
theorem idx_take_succ (L : List S98) (k : Nat) (hk : k < L.length) (x : ByteArray) : hasB (L.take (k + 1)) x = (hasB (L.take k) x || decide ((L.getD k z98).f0 = x)) := by
  unfold hasB
  induction L generalizing k with
  | nil => simp at hk
  | cons c t ih =>
    cases k with
    | zero =>
      simp only [List.take_succ_cons, List.take_zero, List.getD_cons_zero]
      show (if c.f0 = x then some 0 else _).isSome = _
      by_cases h : c.f0 = x
      · simp [h]
      · simp [h, idx]
    | succ k =>
      have hk' : k < t.length := by simpa using hk
      have := ih k hk'
      simp only [List.take_succ_cons, List.getD_cons_succ]
      show (if c.f0 = x then some 0 else (idx (t.take (k + 1)) x).map (· + 1)).isSome = ((if c.f0 = x then some 0 else (idx (t.take k) x).map (· + 1)).isSome || _)
      by_cases h : c.f0 = x
      · simp [h]
      · simp only [h, if_false, Option.isSome_map]
        exact this
section
variable {w0 w : World} {p b n : Nat} {L : List S98} {v : Value}
/-- A put of a key that is there, or for which there is no room: the keys stay. -/
theorem PF.put_stay (h : PF w0 w p b n L v) (k : ByteArray) (hs : k.size ≤ 9223372036854775807) (i : Nat) (hk : (putL L n k i).map (·.f0) = L.map (·.f0)) :
    Calls Try.prog 21 #[.pointer (some ⟨p, 0, none⟩), .string k, .int .i64 (i : Int)] w fun e w' => e = .returned (.int .i64 (putC L n k)) ∧ PF w0 w' p b n (putL L n k i) v :=
  (itput h.t k hs (i : Int) (i : Int) rfl).mono fun e w' ⟨a, t, f⟩ => ⟨a, h.moved t f hk⟩
/-- A put of what is new: the row does not have it yet. -/
theorem PF.put_new (h : PF w0 w p b n L v) (k : ByteArray) (hs : k.size ≤ 9223372036854775807) (i : Nat) :
    Calls Try.prog 21 #[.pointer (some ⟨p, 0, none⟩), .string k, .int .i64 (i : Int)] w fun e w' => e = .returned (.int .i64 (putC L n k)) ∧ TLI (fun x => x) w' p b n (putL L n k i) ∧ Kd.R Kd.string 9 w' w0.heap.size (fun _ => True) v (L.map (·.f0)) ∧ Frm (fun _ => False) w0 w' := by
  refine (itput h.t k hs (i : Int) (i : Int) rfl).mono ?_
  rintro e w' ⟨a, t, f⟩
  obtain ⟨⟨c1, b1⟩, ⟨c2, b2⟩⟩ := itl_blk h.t
  refine ⟨a, t, ?_, h.f.then f (fun i hi hk => by have := h.hp; have := h.hb; rcases hk with rfl | rfl <;> omega)⟩
  refine str_frm h.r f ?_
  rintro j (rfl | rfl) _
  · exact ⟨_, _, b1, by decide⟩
  · exact ⟨_, _, b2, by decide⟩
/-- The new key is appended. -/
theorem PF.appended {w1 : World} {L' : List S98} {v' : Value} {k : ByteArray} (t : TLI (fun x => x) w p b n L') (r : Kd.R Kd.string 9 w w0.heap.size (fun _ => True) v (L.map (·.f0))) (g : w.grownBy w1 v.ownBlock) (r' : Kd.R Kd.string 9 w1 w0.heap.size (fun _ => True) v' (L.map (·.f0) ++ [k])) (hb1 : Below w0.heap.size w0 w1)
    (hk : L'.map (·.f0) = L.map (·.f0) ++ [k]) (hp : w0.heap.size ≤ p) (hb : w0.heap.size ≤ b) : PF w0 w1 p b n L' v' := by
  obtain ⟨⟨c1, b1⟩, ⟨c2, b2⟩⟩ := itl_blk t
  have fr : Frm (fun j => some j = v.ownBlock) w w1 := ⟨g.os, g.tape, g.output, g.size, fun j hj hn => g.block j hj hn⟩
  exact ⟨itl_frm t fr (Kd.R_ne r b1 (by decide)) (Kd.R_ne r b2 (by decide)), by rw [hk]; exact r', Frm.of_below hb1, hp, hb⟩
theorem PF.drop_any (h : PF w0 w p b n L v) (k : ByteArray) (hs : k.size ≤ 9223372036854775807) :
    Calls Try.prog 22 #[.pointer (some ⟨p, 0, none⟩), .string k] w fun e w' => e = .returned (.bool (hasB L k)) ∧ TLI (fun x => x) w' p b n (match idx L k with | some i => dropAt L i | none => L) ∧ Kd.R Kd.string 9 w' w0.heap.size (fun _ => True) v (L.map (·.f0)) ∧ Frm (fun _ => False) w0 w' := by
  refine (itdrop h.t k hs).mono ?_
  rintro e w' ⟨a, t, f⟩
  obtain ⟨⟨c1, b1⟩, ⟨c2, b2⟩⟩ := itl_blk h.t
  refine ⟨a, t, ?_, h.f.then f (fun i hi hk => by have := h.hp; have := h.hb; rcases hk with rfl | rfl <;> omega)⟩
  refine str_frm h.r f ?_
  rintro j (rfl | rfl) _
  · exact ⟨_, _, b1, by decide⟩
  · exact ⟨_, _, b2, by decide⟩
/-- The row and the table, the table less the last key (the row still has it). -/
structure PD (w0 w : World) (p b n : Nat) (L : List S98) (v : Value) : Prop where
  t : TLI (fun x => x) w p b n (L.take (L.length - 1))
  r : Kd.R Kd.string 9 w w0.heap.size (fun _ => True) v (L.map (·.f0))
  f : Frm (fun _ => False) w0 w
  hp : w0.heap.size ≤ p
  hb : w0.heap.size ≤ b
  pos : 0 < L.length
  nd : (L.map (·.f0)).Nodup
theorem PF.size (h : PF w0 w p b n L v) (i : Nat) (hi : i < L.length) : (L.getD i z98).f0.size ≤ 9223372036854775807 := by
  obtain ⟨sl, h1, h2⟩ := h.t
  refine h1.keys (PrI (fun x => x) (L.getD i z98)) (h2.mem_iff.2 (List.mem_map.2 ⟨_, ?_, rfl⟩))
  rw [getD_at L i hi]; exact List.getElem_mem hi
theorem PF.nodup (h : PF w0 w p b n L v) : (L.map (·.f0)).Nodup := by
  obtain ⟨sl, h1, h2⟩ := h.t
  exact itl_nodup h1 h2
theorem PF.drop_last (h : PF w0 w p b n L v) (hpos : 0 < L.length) (hs : (L.getD (L.length - 1) z98).f0.size ≤ 9223372036854775807) :
    Calls Try.prog 22 #[.pointer (some ⟨p, 0, none⟩), .string (L.getD (L.length - 1) z98).f0] w fun e w' => e = .returned (.bool true) ∧ PD w0 w' p b n L v := by
  have hi := idx_nodup h.nodup (L.length - 1) (by omega)
  refine (h.drop_any _ hs).mono ?_
  rintro e w' ⟨a, t, r, f⟩
  rw [show hasB L (L.getD (L.length - 1) z98).f0 = true by unfold hasB; rw [hi]; rfl] at a
  rw [hi] at t
  have t' : TLI (fun x => x) w' p b n (dropAt L (L.length - 1)) := t
  rw [Obj.drop_last L hpos] at t'
  exact ⟨a, t', r, f, h.hp, h.hb, hpos, h.nodup⟩
theorem PD.again (h : PD w0 w p b n L v) (hs : (L.getD (L.length - 1) z98).f0.size ≤ 9223372036854775807) :
    Calls Try.prog 22 #[.pointer (some ⟨p, 0, none⟩), .string (L.getD (L.length - 1) z98).f0] w fun e w' => e = .returned (.bool false) ∧ PD w0 w' p b n L v := by
  have hpos := h.pos
  have hi : idx (L.take (L.length - 1)) (L.getD (L.length - 1) z98).f0 = none := by
    cases hx : idx (L.take (L.length - 1)) (L.getD (L.length - 1) z98).f0 with
    | none => rfl
    | some j =>
      exfalso
      obtain ⟨hl, hk⟩ := idx_some hx
      rw [List.length_take] at hl
      have h1 := idx_nodup h.nd j (by omega)
      have h2 := idx_nodup h.nd (L.length - 1) (by omega)
      have e : (L.take (L.length - 1)).getD j z98 = L.getD j z98 := by
        rw [getD_at _ _ (by rw [List.length_take]; omega), getD_at _ _ (by omega), List.getElem_take]
      rw [e] at hk
      rw [hk, h2] at h1
      have := Option.some.inj h1
      omega
  obtain ⟨⟨c1, b1⟩, ⟨c2, b2⟩⟩ := itl_blk h.t
  refine (itdrop h.t _ hs).mono ?_
  rintro e w' ⟨a, t, f⟩
  rw [show hasB (L.take (L.length - 1)) (L.getD (L.length - 1) z98).f0 = false by unfold hasB; rw [hi]; rfl] at a
  rw [hi] at t
  refine ⟨a, t, ?_, h.f.then f (fun i hi hk => by have := h.hp; have := h.hb; rcases hk with rfl | rfl <;> omega), h.hp, h.hb, hpos, h.nd⟩
  refine str_frm h.r f ?_
  rintro j (rfl | rfl) _
  · exact ⟨_, _, b1, by decide⟩
  · exact ⟨_, _, b2, by decide⟩
theorem PD.cell_last {A : Option Addr} {m c : Nat} (h : PD w0 w p b n L (.slice A m c)) : ∃ ad, A = some ad ∧ w.cell? (ad.add (L.length - 1)) = some (.string (L.getD (L.length - 1) z98).f0) := by
  have hpos := h.pos
  obtain ⟨A', c', e, _, hr⟩ := Kd.R_reads h.r
  injection e with e1 e2 e3
  subst e1
  have hr' : Kd.C Kd.string w A (L.map (·.f0)).length (L.map (·.f0)) := hr
  obtain ⟨ad, e, hc⟩ := texts_at hr' (L.length - 1) (by simp; omega)
  refine ⟨ad, e, ?_⟩
  rw [hc]
  congr 2
  unfold strAt
  rw [List.getD_eq_getElem?_getD, List.getElem?_map, List.getElem?_eq_getElem (by omega), getD_at L _ (by omega)]; rfl
theorem PD.cut {A : Option Addr} {c : Nat} (h : PD w0 w p b n L (.slice A L.length c)) : PF w0 w p b n (L.take (L.length - 1)) (.slice A (L.length - 1) c) := by
  have hpos := h.pos
  obtain ⟨inner, hown⟩ := Kd.R_own h.r
  obtain ⟨g, cap, e, _⟩ := hown.form (by rw [List.length_map]; exact hpos)
  injection e with e1 e2 e3
  subst e1
  refine ⟨h.t, ?_, h.f, h.hp, h.hb⟩
  rw [List.map_take]
  exact row_take Value.string (fun _ => rfl) h.r (L.length - 1) (by omega)
end
section
variable {w0 w : World} {p b n m : Nat} {L : List S98} {v : Value}
theorem pf_drop {kk : ByteArray} (h : PF w0 w p b n L v) (hm : L.length = m + 1) (hk : (L.getD m z98).f0 = kk) :
    Calls Try.prog 22 #[.pointer (some ⟨p, 0, none⟩), .string kk] w fun e w' => e = .returned (.bool true) ∧ PD w0 w' p b n L v := by
  have := h.drop_last (by omega) (h.size (L.length - 1) (by omega))
  rwa [show L.length - 1 = m by omega, hk] at this
theorem pd_again {kk : ByteArray} (h : PD w0 w p b n L v) (hm : L.length = m + 1) (hk : (L.getD m z98).f0 = kk) (hs : kk.size ≤ 9223372036854775807) :
    Calls Try.prog 22 #[.pointer (some ⟨p, 0, none⟩), .string kk] w fun e w' => e = .returned (.bool false) ∧ PD w0 w' p b n L v := by
  have := h.again (by rw [show L.length - 1 = m by omega, hk]; exact hs)
  rwa [show L.length - 1 = m by omega, hk] at this
theorem pd_cell {kk : ByteArray} {ad : Addr} {q c : Nat} (h : PD w0 w p b n L (.slice (some ad) q c)) (hm : L.length = m + 1) (hk : (L.getD m z98).f0 = kk) : w.cell? (ad.add m) = some (.string kk) := by
  obtain ⟨ad', e, hc⟩ := h.cell_last
  obtain rfl := Option.some.inj e
  rwa [show L.length - 1 = m by omega, hk] at hc
theorem pd_cut {A : Option Addr} {c : Nat} (h : PD w0 w p b n L (.slice A (m + 1) c)) (hm : L.length = m + 1) : PF w0 w p b n (L.take m) (.slice A (L.take m).length c) := by
  have h' : PD w0 w p b n L (.slice A L.length c) := by rw [hm]; exact h
  have := h'.cut
  rw [show L.length - 1 = m by omega] at this
  rw [show (L.take m).length = m by rw [List.length_take]; omega]
  exact this
theorem pf_room {A : Option Addr} {q c : Nat} (h : PF w0 w p b n L (.slice A q c)) : L.length ≤ c ∧ q = L.length := by
  obtain ⟨A', c', e, hl, _⟩ := Kd.R_reads h.r
  injection e with e1 e2 e3
  subst e3
  rw [List.length_map] at hl e2
  exact ⟨hl, e2⟩
end
end Go.Proofs.Ytjgoddieamphpaa.Obj
namespace Go.Proofs.Ytjgoddieamphpaa.Obj
open Go.RowKit Go.Sort Go.Proofs.YtjgoddieamphpaaW.PrintWords Go.Proofs.YtjgoddieamphpaaW.PrintLast Probe Go.Proofs.Ytjgoddieamphpaa.PProbeActs
set_option maxRecDepth 100000
set_option linter.unusedVariables false
/-- The list of byte strings, sorted as the library's sort sorts it. -/
def sortB (xs : List ByteArray) : List ByteArray := ((xs.map fun x => x.data.toList).mergeSort fun x y => decide (x ≤ y)).map fun l => ⟨l.toArray⟩
theorem sortB_len (xs : List ByteArray) : (sortB xs).length = xs.length := by unfold sortB; rw [List.length_map, List.length_mergeSort, List.length_map]
theorem sort_R {w : World} {base : Nat} {v : Value} {xs : List ByteArray} (h : Kd.R Kd.string 9 w base (fun _ => True) v xs) (hn : xs.length < 4611686018427387904) :
    Calls Try.prog 90 #[v] w fun e w' => e = .returned (.tuple #[]) ∧ Kd.R Kd.string 9 w' base (fun _ => True) v (sortB xs) ∧ w.grownBy w' v.ownBlock := by
  obtain ⟨hok, inner, hown, hr⟩ := h
  have hl1 : inner.length = xs.length := by have h3 := hr.1; have : Kd.string.sz = 1 := rfl; rw [this] at h3; omega
  have hin : inner = (xs.map fun x => x.data.toList).map encStr := by
    apply List.ext_getElem?
    intro j
    by_cases hj : j < xs.length
    · have h2 := hr.2 j xs[j] (List.getElem?_eq_getElem hj)
      have e1 : Kd.string.sz = 1 := rfl
      rw [e1, Nat.mul_one] at h2
      have h3 : (inner.drop j).take 1 = [Value.string xs[j]] := h2
      have h4 : inner[j]? = some (Value.string xs[j]) := by
        have : ((inner.drop j).take 1)[0]? = some (Value.string xs[j]) := by rw [h3]; rfl
        rw [List.getElem?_take_of_lt (by omega), List.getElem?_drop] at this
        simpa using this
      rw [h4]
      simp [hj]
    · rw [List.getElem?_eq_none (by omega), List.getElem?_eq_none (by simp; omega)]
  have hl : (xs.map fun x => x.data.toList).length = xs.length := List.length_map _
  rcases hown.2 with ⟨hv, hi⟩ | ⟨g, cap, cur, hv, hb, hh, q1, q2, q3, q4⟩
  · subst hv
    obtain rfl : xs = [] := List.length_eq_zero_iff.1 hi
    refine (Try.slices_Sort_string_none none 0 w).mono ?_
    rintro e w' ⟨rfl, rfl⟩
    exact ⟨rfl, by rw [show sortB [] = [] by unfold sortB; simp]; exact Kd.R_nil _ _ _ _ _, ⟨rfl, rfl, rfl, Nat.le_refl _, fun _ _ _ => rfl⟩⟩
  · subst hv
    have key := Try.slices_Sort_string g 0 cap (xs.map fun x => x.data.toList) w (holds_of_block hh (by rw [hl, ← hin, ← q4]; show _ = List.take (xs.length * 1) _; rw [Nat.mul_one])) (Array.getElem?_eq_some_iff.1 hh).1 (by omega)
    rw [hl] at key
    refine key.mono ?_
    rintro e w' ⟨rfl, n, os, rfl⟩
    refine ⟨rfl, ⟨fun _ _ => trivial, ((xs.map fun x => x.data.toList).mergeSort fun x y => decide (x ≤ y)).map encStr, ?_, ?_⟩, grownBy_sorted _⟩
    · have := ownsRow_sorted (w := w) (n := n) (os := os) (ss := xs.map fun x => x.data.toList) (ts := (xs.map fun x => x.data.toList).mergeSort fun x y => decide (x ≤ y)) (List.length_mergeSort _) hb hh (by rw [hl]; exact q1) q2 q3
      rw [hl] at this
      rw [sortB_len]
      exact this
    · refine ⟨by rw [List.length_map, List.length_mergeSort, hl, sortB_len]; show _ = _ * 1; omega, fun j p hj => ?_⟩
      have e1 : Kd.string.sz = 1 := rfl
      rw [e1, Nat.mul_one]
      unfold sortB at hj
      rw [List.getElem?_map] at hj
      obtain ⟨l, hl2, rfl⟩ := Option.map_eq_some_iff.1 hj
      show _ = [Value.string ⟨l.toArray⟩]
      rw [← List.map_drop, ← List.map_take]
      obtain ⟨hjl, he⟩ := List.getElem?_eq_some_iff.1 hl2
      rw [List.drop_eq_getElem_cons hjl, List.take_succ_cons, List.take_zero, List.map_cons, List.map_nil, he]
end Go.Proofs.Ytjgoddieamphpaa.Obj
namespace Go.Proofs.Ytjgoddieamphpaa.Obj
open Go.RowKit Go.Proofs.YtjgoddieamphpaaW.PrintWords Go.Proofs.YtjgoddieamphpaaW.PrintLast Probe Go.Proofs.Ytjgoddieamphpaa.PProbeActs
set_option maxRecDepth 100000
set_option linter.unusedVariables false
/-- The keys of the first i slots. -/
def ku (sl : List (Option (Ent Int))) (i : Nat) : List ByteArray := (items (sl.take i)).map (·.1)
theorem ku_zero (sl : List (Option (Ent Int))) : ku sl 0 = [] := rfl
theorem take_succ_at (sl : List (Option (Ent Int))) (i : Nat) (hi : i < sl.length) : sl.take (i + 1) = sl.take i ++ [at_ sl i] := by
  rw [List.take_add_one, List.getElem?_eq_getElem hi]
  unfold at_
  rw [List.getD_eq_getElem?_getD, List.getElem?_eq_getElem hi]
  rfl
theorem ku_none (sl : List (Option (Ent Int))) (i : Nat) (hi : i < sl.length) (h : at_ sl i = none) : ku sl (i + 1) = ku sl i := by
  unfold ku items; rw [take_succ_at sl i hi, h]; simp
theorem ku_some (sl : List (Option (Ent Int))) (i : Nat) (hi : i < sl.length) {k : ByteArray} {v : Int} (h : at_ sl i = some (k, v)) : ku sl (i + 1) = ku sl i ++ [k] := by
  unfold ku items; rw [take_succ_at sl i hi, h]; simp
theorem ku_len (sl : List (Option (Ent Int))) (i : Nat) : (ku sl i).length ≤ i := by
  unfold ku items; rw [List.length_map]
  have := List.length_filterMap_le id (sl.take i)
  have h2 := List.length_take_le i sl
  omega
theorem ku_all (sl : List (Option (Ent Int))) : ku sl sl.length = (items sl).map (·.1) := by unfold ku; rw [List.take_length]
structure KS (w0 w : World) (p b most : Nat) (sl : List (Option (Ent Int))) (L : List ByteArray) (v : Value) : Prop where
  t : TabI w p b most sl
  r : Kd.R Kd.string 9 w w0.heap.size (fun _ => True) v L
  f : Below w0.heap.size w0 w
theorem KS.appended {w0 w w1 : World} {p b most : Nat} {sl : List (Option (Ent Int))} {L L' : List ByteArray} {v v' : Value} (h : KS w0 w p b most sl L v) (g : w.grownBy w1 v.ownBlock) (r' : Kd.R Kd.string 9 w1 w0.heap.size (fun _ => True) v' L') (hb1 : Below w0.heap.size w0 w1) : KS w0 w1 p b most sl L' v' := by
  have fr : Frm (fun j => some j = v.ownBlock) w w1 := ⟨g.os, g.tape, g.output, g.size, fun j hj hn => g.block j hj hn⟩
  exact ⟨h.t.frm fr (Kd.R_ne h.r h.t.hd (by decide)) (Kd.R_ne h.r h.t.bk (by decide)), r', hb1⟩
theorem ikeys {p b most : Nat} {sl : List (Option (Ent Int))} {w : World} (HT : TabI w p b most sl) (hm : most ≤ 100000) :
    Calls Try.prog 80 #[.pointer (some ⟨p, 0, none⟩)] w fun e w' => ∃ (A : Option Addr) (c : Nat), e = .returned (.slice A (ku sl (2 * most)).length c) ∧ Kd.R Kd.string 9 w' w.heap.size (fun _ => True) (.slice A (ku sl (2 * most)).length c) (sortB (ku sl (2 * most))) ∧ Frm (fun _ => False) w w' := by
  have hlen := HT.len
  have HT := Aside0.mk HT
  go_enter Try.func80, Try.ntmps80
  go_wp2_with fail
  (with_reducible refine (islots_any HT.out).mono ?_); rintro e w' ⟨rfl, rfl⟩
  go_wp2
  go_loopw [3, 9] (fun v3 v9 wr => ∃ (A : Option Addr) (c : Nat) (i : Nat), v3 = .slice A (ku sl i).length c ∧ v9 = .int .i64 (i : Nat) ∧ i ≤ 2 * most ∧ Aside0 (KS w wr p b most sl (ku sl i) (.slice A (ku sl i).length c))) (fun _ v9 _ => 2 * most - (intOf v9).toNat)
  case atStart => exact ⟨none, 0, 0, rfl, rfl, Nat.zero_le _, ⟨HT.out, Kd.R_nil _ _ _ _ _, Below.refl _ _⟩⟩
  case round =>
    clear HT
    obtain ⟨A, c, i, rfl, rfl, hi, HK⟩ := hrel
    by_cases hlt : i < 2 * most
    · have z1 : decide ((i : Int) < ((2 * most : Nat) : Int)) = true := decide_eq_true (by omega)
      have z2 : decide ((i : Int) < 2 * (most : Int)) = true := decide_eq_true (by omega)
      have z3 : decide (i < 2 * most) = true := decide_eq_true (by omega)
      have hkl := ku_len sl i
      cases hx : at_ sl i with
      | none =>
        have HX := Lib.hid hx
        clear hx
        go_wp2_with fail
        (with_reducible refine (iowner_none HK.out.t i hlt HX.out).mono ?_); rintro e w2 ⟨rfl, rfl⟩
        go_wp2
        go_roundw
        case rel => exact ⟨A, c, i + 1, by rw [ku_none sl i (by omega) HX.out], by go_num, by omega, by rw [ku_none sl i (by omega) HX.out]; exact HK⟩
        case measure => simp [intOf]; omega
      | some x =>
        obtain ⟨k, v⟩ := x
        have HX := Lib.hid hx
        clear hx
        go_wp2_with fail
        (with_reducible refine (iowner_some HK.out.t i hlt HX.out).mono ?_); rintro e w2 ⟨rfl, rfl⟩
        go_wp2_with (first | (at_builtin; refine Kd.R_append Kd.string _ rfl (.tmp 19) (.tmp 21) 22 9 (.string ⟨#[]⟩) 16 rfl Try.underlying22 info_str rfl (by decide) (by omega) (.slice A (ku sl i).length c) (ku sl i) k [.string k] (fun _ => True) (fun _ => False) rfl rfl rfl (fun _ h => h.elim) (fun _ _ => trivial) HK.out.r HK.out.f HK.out.f.size (by omega) ?_; intro v4 w4 hv4 hb4 hg4 hx4; have HK3 := Aside0.mk (HK.out.appended hg4 hv4 hb4); obtain ⟨A4, c4, e4⟩ := Kd.R_slice hv4; subst e4; clear hv4 hb4 hg4 hx4))
        go_roundw
        case rel => exact ⟨A4, c4, i + 1, by rw [ku_some sl i (by omega) HX.out, List.length_append]; rfl, by go_num, by omega, by rw [ku_some sl i (by omega) HX.out]; exact HK3⟩
        case measure => simp [intOf]; omega
    · obtain rfl : i = 2 * most := by omega
      have z1 : decide (((2 * most : Nat) : Int) < ((2 * most : Nat) : Int)) = false := decide_eq_false (by omega)
      have z2 : decide (2 * (most : Int) < 2 * (most : Int)) = false := decide_eq_false (by omega)
      have hkl := ku_len sl (2 * most)
      go_wp2_with fail
      (with_reducible refine (sort_R HK.out.r (by omega)).mono ?_); rintro e w2 ⟨rfl, hr2, hg2⟩
      have HR2 := Aside0.mk hr2
      have HG2 := Aside0.mk hg2
      clear hr2 hg2
      go_wp2
      go_ret
      refine ⟨A, c, rfl, HR2.out, ?_⟩
      have g := HG2.out
      have fr : Frm (fun j => some j = (Value.slice A (ku sl (2 * most)).length c).ownBlock) _ _ := ⟨g.os, g.tape, g.output, g.size, fun j hj hn => g.block j hj hn⟩
      exact (Frm.of_below HK.out.f).then fr (fun i hi hk => by have h3 := ((Kd.R_bound HK.out.r).1 i hk.symm).2.1; omega)
end Go.Proofs.Ytjgoddieamphpaa.Obj
-- WRITTEN BY THIS SESSION'S mprint.py upon the print: some functions are proved by hand
namespace Go.Proofs.Ytjgoddieamphpaa.PProbeActs
open Go.RowKit Go.Proofs.YtjgoddieamphpaaW.PrintWords Go.Proofs.YtjgoddieamphpaaW.PrintLast Go.Proofs.YtjgoddieamphpaaW.PrintMore
attribute [local go_sem] max2_int min2_int max_two min_two max_three min_three max_four min_four   -- for this text's walks alone
set_option linter.unusedVariables false
set_option linter.unusedSimpArgs false

-- NOT PRINTED: function 102 (slices_partitionOrdered_string)

-- NOT PRINTED: function 92 (slices_pdqsortOrdered_string)

-- NOT PRINTED: function 90 (slices_Sort_string_string)

-- NOT PRINTED: function 80 (probe_Table_int_Keys)

/-! ### turncockref20_Names: function 81 -/
mutual
def turncockref20_Names.l0 : Nat → List (S98) → List ByteArray → Option (List ByteArray)
  | 0, _, _ => none
  | k + 1, x0, x3 => if (x0.length : Int) > 0 then (turncockref20_Names.l1 k x0 x3 0 1) else (some x3)
def turncockref20_Names.l1 : Nat → List (S98) → List ByteArray → Int → Int → Option (List ByteArray)
  | 0, _, _, _, _ => none
  | k + 1, x0, x3, x4, x5 => if x5 < (x0.length : Int) then (if 0 ≤ x5 then (if 0 ≤ x4 then (if x4 < (x0.length : Int) then (if (Op.bytesLess (((rd_T98 x0 x5).f0).toList) (((rd_T98 x0 x4).f0).toList)) = true then (turncockref20_Names.l1 k x0 x3 x5 (wrap64 (x5 + 1))) else (turncockref20_Names.l1 k x0 x3 x4 (wrap64 (x5 + 1)))) else (none)) else (none)) else (none)) else (if 0 ≤ x4 then (if x4 < (x0.length : Int) then (if x3.length < 8796093022208 then ((turncockref20_drop.f x0 x4).bind fun t269 => (turncockref20_Names.l0 k t269 (x3 ++ [(rd_T98 x0 x4).f0]))) else (none)) else (none)) else (none))
end
def turncockref20_Names.f (k : Nat) (l0 : List (S98)) : Option (List ByteArray) := turncockref20_Names.l0 k l0 ([] : List ByteArray)
theorem turncockref20_Names.mono_l : ∀ k, (∀ y0 y1, LeO (turncockref20_Names.l0 k y0 y1) (turncockref20_Names.l0 (k + 1) y0 y1)) ∧ (∀ y0 y1 y2 y3, LeO (turncockref20_Names.l1 k y0 y1 y2 y3) (turncockref20_Names.l1 (k + 1) y0 y1 y2 y3))
  | 0 => ⟨fun _ _ r h => by simp [turncockref20_Names.l0] at h, fun _ _ _ _ r h => by simp [turncockref20_Names.l1] at h⟩
  | k + 1 => by
    obtain ⟨ih0, ih1⟩ := turncockref20_Names.mono_l k
    refine ⟨?_, ?_⟩
    · intro y0 y1
      unfold turncockref20_Names.l0
      repeat' first
      | (with_reducible exact ih0 _ _)
      | (with_reducible exact ih1 _ _ _ _)
      | (with_reducible exact LeO.refl _)
      | (with_reducible exact LeO.none _)
      | (with_reducible refine LeO.ite ?_ ?_)
      | (with_reducible refine LeO.bind ?_ (fun _ => ?_))
      | exact ih0 _ _
      | exact ih1 _ _ _ _
      | exact LeO.none _
      | refine LeO.ite ?_ ?_
      | refine LeO.bind ?_ (fun _ => ?_)
    · intro y0 y1 y2 y3
      unfold turncockref20_Names.l1
      repeat' first
      | (with_reducible exact ih0 _ _)
      | (with_reducible exact ih1 _ _ _ _)
      | (with_reducible exact LeO.refl _)
      | (with_reducible exact LeO.none _)
      | (with_reducible refine LeO.ite ?_ ?_)
      | (with_reducible refine LeO.bind ?_ (fun _ => ?_))
      | exact ih0 _ _
      | exact ih1 _ _ _ _
      | exact LeO.none _
      | refine LeO.ite ?_ ?_
      | refine LeO.bind ?_ (fun _ => ?_)
theorem turncockref20_Names.mono : ∀ a0 k, LeO (turncockref20_Names.f k a0) (turncockref20_Names.f (k + 1) a0) := by
  intro a0 k
  obtain ⟨ih0, ih1⟩ := turncockref20_Names.mono_l k
  unfold turncockref20_Names.f
  repeat' first
      | (with_reducible exact ih0 _ _)
      | (with_reducible exact ih1 _ _ _ _)
      | (with_reducible exact LeO.refl _)
      | (with_reducible exact LeO.none _)
      | (with_reducible refine LeO.ite ?_ ?_)
      | (with_reducible refine LeO.bind ?_ (fun _ => ?_))
      | exact ih0 _ _
      | exact ih1 _ _ _ _
      | exact LeO.none _
      | refine LeO.ite ?_ ?_
      | refine LeO.bind ?_ (fun _ => ?_)
set_option maxHeartbeats 8000000 in
set_option maxRecDepth 100000 in
theorem turncockref20_Names.calls (k : Nat) (P0_ : Nat → Prop) (A0 : Option Addr) (c0 : Nat) (l0 : List (S98)) (r : List ByteArray) (w : World) (hs0 : Kd.V k98 98 w w.heap.size (fun k_ => P0_ k_) (.slice A0 l0.length c0) l0) (h : turncockref20_Names.f k l0 = some r) :
    Calls Try.prog 81 #[.slice A0 l0.length c0] w fun e w' => ∃ v0_ : Value, e = .returned (v0_) ∧ Kd.R Kd.string 9 w' w.heap.size (fun k_ => (w.heap.size ≤ k_)) v0_ r ∧ Below w.heap.size w w' := by
  have HO0 := Aside0.mk (show Kd.V k98 98 w w.heap.size (fun k_ => (P0_ k_ ∨ w.heap.size ≤ k_)) (.slice A0 l0.length c0) l0 from Kd.V_mono hs0 (fun k_ hk => .inl hk))
  have HB := Aside0.mk (Below.refl w.heap.size w)
  have H : (turncockref20_Names.l0 k l0 ([] : List ByteArray)) = some r := h
  clear h
  have H' := Aside0.mk H
  clear H
  go_enter Try.func81, Try.ntmps81
  go_wp2
  repeat (go_quiet (fail); try go_wp2)
  go_loopg [0, 3] k (fun kq v0 v3 w' => ∃ (x0_1 : List (S98)) (x3_1 : List ByteArray), Aside0 (turncockref20_Names.l0 kq x0_1 x3_1 = some r) ∧ Aside0 (kq ≤ k) ∧ Aside0 (Kd.V k98 98 w' w.heap.size (fun k_ => (P0_ k_ ∨ w.heap.size ≤ k_) ∧ some k_ ≠ (v3 : Value).ownBlock) v0 x0_1) ∧ Aside0 (Kd.R Kd.string 9 w' w.heap.size (fun k_ => (w.heap.size ≤ k_)) v3 x3_1) ∧ Aside0 (Below w.heap.size w w'))
  case atStart => exact ⟨(l0), (([] : List ByteArray)), H', ⟨Nat.le_refl _⟩, ⟨by (with_reducible repeat (first | apply Kd.V_alloc | apply Kd.V_drewN | apply Kd.V_drew)); exact Kd.V_mono HO0.out (fun _ hk => ⟨hk, (by simp [Value.ownBlock])⟩)⟩, ⟨by first | exact Kd.R_nil _ _ _ _ _ | exact Kd.N_nil _ _ _ _ _ | exact Kd.V_nil _ _ _ _ _ | exact Kd.Q_nil _ _ _ _ _ | exact Kd.S_nil _ _ _ _ _⟩, ⟨by repeat (first | (with_reducible first | exact HB.out | apply below_alloc | apply pw_below_drewN | apply below_drew1) | exact HB.out)⟩⟩
  case round =>
    clear H'
    obtain ⟨x0_1, x3_1, HA, HK1, HO_0, HO_3, HB⟩ := hrel
    cases gk with
    | zero => exact absurd HA.out (by simp [turncockref20_Names.l0])
    | succ k1 =>
      have H := HA.out
      clear HA
      simp only [turncockref20_Names.l0] at H
      by_cases c2 : (x0_1.length : Int) > 0
      · rw [if_pos c2] at H
        have c2b0 : decide (0 < (x0_1.length : Int)) = true := decide_eq_true c2
        have c2b1 : decide (0 < x0_1.length) = true := decide_eq_true (by omega)
        clear c2
        have H' := Aside0.mk H
        clear H
        obtain ⟨Ao3, co3, eo3⟩ := Kd.V_slice HO_0.out
        subst eo3
        go_wp2
        repeat (go_quiet (fail); try go_wp2)
        go_loopg [4, 5] k1 (fun kq v4 v5 w' => ∃ (x4_2 : Int) (x5_2 : Int), v4 = .int .i64 x4_2 ∧ v5 = .int .i64 x5_2 ∧ Aside0 (turncockref20_Names.l1 kq x0_1 x3_1 x4_2 x5_2 = some r) ∧ Aside0 (kq ≤ k1) ∧ Aside0 (Kd.V k98 98 w' w.heap.size (fun k_ => (P0_ k_ ∨ w.heap.size ≤ k_) ∧ some k_ ≠ (u3 : Value).ownBlock) (.slice Ao3 x0_1.length co3) x0_1) ∧ Aside0 (Kd.R Kd.string 9 w' w.heap.size (fun k_ => (w.heap.size ≤ k_)) u3 x3_1) ∧ Aside0 (Below w.heap.size w w'))
        case atStart => exact ⟨(0), (1), (by first | rfl | (simp; done) | (simp [*]; done)), (by first | rfl | (simp; done) | (simp [*]; done)), H', ⟨Nat.le_refl _⟩, ⟨by (with_reducible repeat (first | apply Kd.V_alloc | apply Kd.V_drewN | apply Kd.V_drew)); exact HO_0.out⟩, ⟨by (with_reducible repeat (first | apply Kd.R_alloc | apply Kd.R_drewN | apply Kd.R_drew)); exact HO_3.out⟩, ⟨by repeat (first | (with_reducible first | exact HB.out | apply below_alloc | apply pw_below_drewN | apply below_drew1) | exact HB.out)⟩⟩
        case round =>
          clear H'
          try clear c2
          try clear c2b0
          try clear c2b1
          try clear p2
          obtain ⟨x4_2, x5_2, rfl, rfl, HA, HK2, HO_0, HO_3, HB⟩ := hrel
          cases gk with
          | zero => exact absurd HA.out (by simp [turncockref20_Names.l1])
          | succ k2 =>
            have H := HA.out
            clear HA
            simp only [turncockref20_Names.l1] at H
            by_cases c4 : x5_2 < (x0_1.length : Int)
            · rw [if_pos c4] at H
              have c4b0 : decide (x5_2 < (x0_1.length : Int)) = true := decide_eq_true c4
              clear c4
              by_cases c5 : 0 ≤ x5_2
              · rw [if_pos c5] at H
                have c5b0 : decide (0 ≤ x5_2) = true := decide_eq_true c5
                clear c5
                by_cases c6 : 0 ≤ x4_2
                · rw [if_pos c6] at H
                  have c6b0 : decide (0 ≤ x4_2) = true := decide_eq_true c6
                  clear c6
                  by_cases c7 : x4_2 < (x0_1.length : Int)
                  · rw [if_pos c7] at H
                    have c7b0 : decide (x4_2 < (x0_1.length : Int)) = true := decide_eq_true c7
                    clear c7
                    by_cases c8 : (Op.bytesLess (((rd_T98 x0_1 x5_2).f0).toList) (((rd_T98 x0_1 x4_2).f0).toList)) = true
                    · rw [if_pos c8] at H
                      have c8b0 : (Op.bytesLess (((rd_T98 x0_1 x5_2).f0).toList) (((rd_T98 x0_1 x4_2).f0).toList)) = true := c8
                      clear c8
                      have H' := Aside0.mk H
                      clear H
                      have p263 : 0 ≤ (x5_2 : Int) := of_decide_eq_true (by first | (with_reducible assumption) | assumption)
                      have q263 : x5_2 < (x0_1.length : Int) := of_decide_eq_true (by first | (with_reducible assumption) | assumption)
                      obtain ⟨ad263, e263, hx263_0, hx263_1, hx263_2⟩ := at_T98 (Kd.V_reads' HO_0.out).2.2 x5_2 p263 q263
                      cases e263
                      replace p263 := eq_true p263
                      replace q263 := eq_true q263
                      have p264 : 0 ≤ (x4_2 : Int) := of_decide_eq_true (by first | (with_reducible assumption) | assumption)
                      have q264 : x4_2 < (x0_1.length : Int) := of_decide_eq_true (by first | (with_reducible assumption) | assumption)
                      obtain ⟨ad264, e264, hx264_0, hx264_1, hx264_2⟩ := at_T98 (Kd.V_reads' HO_0.out).2.2 x4_2 p264 q264
                      obtain rfl : ad263 = ad264 := (by injection e264)
                      replace p264 := eq_true p264
                      replace q264 := eq_true q264
                      go_wp2
                      repeat (go_quiet (fail); try go_wp2)
                      go_roundg k2
                      case measure => have := HK1.out; have := HK2.out; omega
                      case rel => exact ⟨(x5_2), (wrap64 (x5_2 + 1)), (by first | rfl | (simp; done) | (simp [*]; done)), (by first | rfl | (simp; done) | (simp [*]; done)), H', ⟨by have := HK1.out; have := HK2.out; omega⟩, ⟨by (with_reducible repeat (first | apply Kd.V_alloc | apply Kd.V_drewN | apply Kd.V_drew)); exact HO_0.out⟩, ⟨by (with_reducible repeat (first | apply Kd.R_alloc | apply Kd.R_drewN | apply Kd.R_drew)); exact HO_3.out⟩, ⟨by repeat (first | (with_reducible first | exact HB.out | apply below_alloc | apply pw_below_drewN | apply below_drew1) | exact HB.out)⟩⟩
                    · rw [if_neg c8] at H
                      have c8b0 : (Op.bytesLess (((rd_T98 x0_1 x5_2).f0).toList) (((rd_T98 x0_1 x4_2).f0).toList)) = false := by simpa using c8
                      clear c8
                      have H' := Aside0.mk H
                      clear H
                      have p263 : 0 ≤ (x5_2 : Int) := of_decide_eq_true (by first | (with_reducible assumption) | assumption)
                      have q263 : x5_2 < (x0_1.length : Int) := of_decide_eq_true (by first | (with_reducible assumption) | assumption)
                      obtain ⟨ad263, e263, hx263_0, hx263_1, hx263_2⟩ := at_T98 (Kd.V_reads' HO_0.out).2.2 x5_2 p263 q263
                      cases e263
                      replace p263 := eq_true p263
                      replace q263 := eq_true q263
                      have p264 : 0 ≤ (x4_2 : Int) := of_decide_eq_true (by first | (with_reducible assumption) | assumption)
                      have q264 : x4_2 < (x0_1.length : Int) := of_decide_eq_true (by first | (with_reducible assumption) | assumption)
                      obtain ⟨ad264, e264, hx264_0, hx264_1, hx264_2⟩ := at_T98 (Kd.V_reads' HO_0.out).2.2 x4_2 p264 q264
                      obtain rfl : ad263 = ad264 := (by injection e264)
                      replace p264 := eq_true p264
                      replace q264 := eq_true q264
                      go_wp2
                      repeat (go_quiet (fail); try go_wp2)
                      go_roundg k2
                      case measure => have := HK1.out; have := HK2.out; omega
                      case rel => exact ⟨(x4_2), (wrap64 (x5_2 + 1)), (by first | rfl | (simp; done) | (simp [*]; done)), (by first | rfl | (simp; done) | (simp [*]; done)), H', ⟨by have := HK1.out; have := HK2.out; omega⟩, ⟨by (with_reducible repeat (first | apply Kd.V_alloc | apply Kd.V_drewN | apply Kd.V_drew)); exact HO_0.out⟩, ⟨by (with_reducible repeat (first | apply Kd.R_alloc | apply Kd.R_drewN | apply Kd.R_drew)); exact HO_3.out⟩, ⟨by repeat (first | (with_reducible first | exact HB.out | apply below_alloc | apply pw_below_drewN | apply below_drew1) | exact HB.out)⟩⟩
                  · rw [if_neg c7] at H
                    exact absurd H (by simp)
                · rw [if_neg c6] at H
                  exact absurd H (by simp)
              · rw [if_neg c5] at H
                exact absurd H (by simp)
            · rw [if_neg c4] at H
              have c4b0 : decide (x5_2 < (x0_1.length : Int)) = false := decide_eq_false c4
              clear c4
              by_cases c9 : 0 ≤ x4_2
              · rw [if_pos c9] at H
                have c9b0 : decide (0 ≤ x4_2) = true := decide_eq_true c9
                clear c9
                by_cases c10 : x4_2 < (x0_1.length : Int)
                · rw [if_pos c10] at H
                  have c10b0 : decide (x4_2 < (x0_1.length : Int)) = true := decide_eq_true c10
                  clear c10
                  by_cases c11 : x3_1.length < 8796093022208
                  · rw [if_pos c11] at H
                    have LMc11 := Aside0.mk c11
                    clear c11
                    obtain ⟨y266, hy266⟩ : ∃ y_ : List ByteArray, y_ = (x3_1 ++ [(rd_T98 x0_1 x4_2).f0]) := ⟨_, rfl⟩
                    replace H : ((turncockref20_drop.f x0_1 x4_2).bind fun t269 => (turncockref20_Names.l0 k2 t269 y266)) = some r := by first | (rw [hy266]; with_reducible exact H) | (have H2_ := (Option.bind_some _ _).symm.trans H; rw [hy266]; with_reducible exact H2_) | (have H2_ := (Option.bind_some _ _).symm.trans H; with_reducible exact H2_) | with_reducible exact H | (rw [hy266]; exact H) | exact H
                    have Ny266 := Aside0.mk hy266
                    clear hy266
                    replace H := Option.bind_eq_some_iff.mp H
                    obtain ⟨t269, A120, H⟩ := H
                    replace H : (turncockref20_Names.l0 k2 t269 y266) = some r := H
                    have A12 := Aside0.mk A120
                    clear A120
                    have H' := Aside0.mk H
                    clear H
                    have p265 : 0 ≤ (x4_2 : Int) := of_decide_eq_true (by first | (with_reducible assumption) | assumption)
                    have q265 : x4_2 < (x0_1.length : Int) := of_decide_eq_true (by first | (with_reducible assumption) | assumption)
                    obtain ⟨ad265, e265, hx265_0, hx265_1, hx265_2⟩ := at_T98 (Kd.V_reads' HO_0.out).2.2 x4_2 p265 q265
                    cases e265
                    replace p265 := eq_true p265
                    replace q265 := eq_true q265
                    go_wp2_with (first | ((with_reducible refine gate_builtin (b := .append) (xs := #[.tmp 27, .tmp 33]) rfl ?_); at_builtin; refine Kd.R_append Kd.string (w0 := w) w.heap.size rfl (.tmp 27) (.tmp 33) 22 9 (.string ⟨#[]⟩) 16 rfl Try.underlying22 info9 rfl (by decide) (by omega) u3 x3_1 ((rd_T98 x0_1 x4_2).f0) [.string ((rd_T98 x0_1 x4_2).f0)] (fun k_ => (w.heap.size ≤ k_)) (fun _ => False) rfl rfl ?aP (fun _ hk => hk.elim) ?aF ?aO ?aB ?aS ?aL ?_; (case aP => exact rfl); (case aB => exact (by repeat (first | (with_reducible first | exact HB.out | apply below_alloc | apply pw_below_drewN | apply below_drew1) | exact HB.out))); (case aF => exact (fun k_ hk => (Nat.le_trans (below_size (by repeat (first | (with_reducible first | exact HB.out | apply below_alloc | apply pw_below_drewN | apply below_drew1) | exact HB.out))) hk))); (case aO => exact (by (with_reducible repeat (first | apply Kd.R_alloc | apply Kd.R_drewN | apply Kd.R_drew)); exact HO_3.out)); (case aS => exact (below_size (by repeat (first | (with_reducible first | exact HB.out | apply below_alloc | apply pw_below_drewN | apply below_drew1) | exact HB.out)))); (case aL => have := LMc11.out; omega); intro v267 w13 ho hb hg hat; rw [← Ny266.out] at ho; have n0_ := Aside0.mk (Kd.V_afterv (ok := (fun k_ => (P0_ k_ ∨ w.heap.size ≤ k_))) (by (with_reducible repeat (first | apply Kd.V_alloc | apply Kd.V_drewN | apply Kd.V_drew)); exact HO_0.out) hg hat); have n1_ := Aside0.mk (hb); have n2_ := Aside0.mk (ho); clear HO_0; clear HB; clear HO_3; have HO_0 := n0_; have HB := n1_; have HO268 := n2_; clear n0_ n1_ n2_; clear ho hb hg hat) | (go_at_call 72; (with_reducible refine (turncockref20_drop.calls _ _ x0_1 x4_2 t269 _ ?side1 ?side2 A12.out).mono ?_); (case side1 => repeat (first | exact (Kd.V_reads' HO_0.out).2.2 | (with_reducible refine Kd.C_alloc ?_ _) | (with_reducible refine Kd.C_drewN ?_ _) | (with_reducible refine Kd.C_drew ?_))); (case side2 => exact (Kd.V_reads' HO_0.out).2.1); rintro e w14 ⟨v270, rfl, ho0, hb⟩; have n0_ := Aside0.mk (Kd.V_elder' (by (with_reducible repeat (first | apply Kd.V_alloc | apply Kd.V_drewN | apply Kd.V_drew)); exact HO_0.out) (Kd.R_base ho0) hb); have n1_ := Aside0.mk (Kd.R_below (by (with_reducible repeat (first | apply Kd.R_alloc | apply Kd.R_drewN | apply Kd.R_drew)); exact HO268.out) hb); have n2_ := Aside0.mk (Kd.R_lower (Kd.R_newM (M := fun k_ => (w.heap.size ≤ k_)) ho0 (below_size (by repeat (first | (with_reducible first | exact HB.out | apply below_alloc | apply pw_below_drewN | apply below_drew1) | exact HB.out))) (fun k_ h_ => h_)) (below_size (by repeat (first | (with_reducible first | exact HB.out | apply below_alloc | apply pw_below_drewN | apply below_drew1) | exact HB.out)))); have n3_ := Aside0.mk (below_step (by repeat (first | (with_reducible first | exact HB.out | apply below_alloc | apply pw_below_drewN | apply below_drew1) | exact HB.out)) hb); clear HO_0; clear HO268; clear HB; have HO_0 := n0_; have HO268 := n1_; have HO271 := n2_; have HB := n3_; clear n0_ n1_ n2_ n3_; (try clear hb); (try clear hb2); (try clear hk); (try clear hi); (try clear ho0)))
                    repeat (go_quiet (first | ((with_reducible refine gate_builtin (b := .append) (xs := #[.tmp 27, .tmp 33]) rfl ?_); at_builtin; refine Kd.R_append Kd.string (w0 := w) w.heap.size rfl (.tmp 27) (.tmp 33) 22 9 (.string ⟨#[]⟩) 16 rfl Try.underlying22 info9 rfl (by decide) (by omega) u3 x3_1 ((rd_T98 x0_1 x4_2).f0) [.string ((rd_T98 x0_1 x4_2).f0)] (fun k_ => (w.heap.size ≤ k_)) (fun _ => False) rfl rfl ?aP (fun _ hk => hk.elim) ?aF ?aO ?aB ?aS ?aL ?_; (case aP => exact rfl); (case aB => exact (by repeat (first | (with_reducible first | exact HB.out | apply below_alloc | apply pw_below_drewN | apply below_drew1) | exact HB.out))); (case aF => exact (fun k_ hk => (Nat.le_trans (below_size (by repeat (first | (with_reducible first | exact HB.out | apply below_alloc | apply pw_below_drewN | apply below_drew1) | exact HB.out))) hk))); (case aO => exact (by (with_reducible repeat (first | apply Kd.R_alloc | apply Kd.R_drewN | apply Kd.R_drew)); exact HO_3.out)); (case aS => exact (below_size (by repeat (first | (with_reducible first | exact HB.out | apply below_alloc | apply pw_below_drewN | apply below_drew1) | exact HB.out)))); (case aL => have := LMc11.out; omega); intro v267 w13 ho hb hg hat; rw [← Ny266.out] at ho; have n0_ := Aside0.mk (Kd.V_afterv (ok := (fun k_ => (P0_ k_ ∨ w.heap.size ≤ k_))) (by (with_reducible repeat (first | apply Kd.V_alloc | apply Kd.V_drewN | apply Kd.V_drew)); exact HO_0.out) hg hat); have n1_ := Aside0.mk (hb); have n2_ := Aside0.mk (ho); clear HO_0; clear HB; clear HO_3; have HO_0 := n0_; have HB := n1_; have HO268 := n2_; clear n0_ n1_ n2_; clear ho hb hg hat) | (go_at_call 72; (with_reducible refine (turncockref20_drop.calls _ _ x0_1 x4_2 t269 _ ?side1 ?side2 A12.out).mono ?_); (case side1 => repeat (first | exact (Kd.V_reads' HO_0.out).2.2 | (with_reducible refine Kd.C_alloc ?_ _) | (with_reducible refine Kd.C_drewN ?_ _) | (with_reducible refine Kd.C_drew ?_))); (case side2 => exact (Kd.V_reads' HO_0.out).2.1); rintro e w14 ⟨v270, rfl, ho0, hb⟩; have n0_ := Aside0.mk (Kd.V_elder' (by (with_reducible repeat (first | apply Kd.V_alloc | apply Kd.V_drewN | apply Kd.V_drew)); exact HO_0.out) (Kd.R_base ho0) hb); have n1_ := Aside0.mk (Kd.R_below (by (with_reducible repeat (first | apply Kd.R_alloc | apply Kd.R_drewN | apply Kd.R_drew)); exact HO268.out) hb); have n2_ := Aside0.mk (Kd.R_lower (Kd.R_newM (M := fun k_ => (w.heap.size ≤ k_)) ho0 (below_size (by repeat (first | (with_reducible first | exact HB.out | apply below_alloc | apply pw_below_drewN | apply below_drew1) | exact HB.out))) (fun k_ h_ => h_)) (below_size (by repeat (first | (with_reducible first | exact HB.out | apply below_alloc | apply pw_below_drewN | apply below_drew1) | exact HB.out)))); have n3_ := Aside0.mk (below_step (by repeat (first | (with_reducible first | exact HB.out | apply below_alloc | apply pw_below_drewN | apply below_drew1) | exact HB.out)) hb); clear HO_0; clear HO268; clear HB; have HO_0 := n0_; have HO268 := n1_; have HO271 := n2_; have HB := n3_; clear n0_ n1_ n2_ n3_; (try clear hb); (try clear hb2); (try clear hk); (try clear hi); (try clear ho0))); try go_wp2_with (first | ((with_reducible refine gate_builtin (b := .append) (xs := #[.tmp 27, .tmp 33]) rfl ?_); at_builtin; refine Kd.R_append Kd.string (w0 := w) w.heap.size rfl (.tmp 27) (.tmp 33) 22 9 (.string ⟨#[]⟩) 16 rfl Try.underlying22 info9 rfl (by decide) (by omega) u3 x3_1 ((rd_T98 x0_1 x4_2).f0) [.string ((rd_T98 x0_1 x4_2).f0)] (fun k_ => (w.heap.size ≤ k_)) (fun _ => False) rfl rfl ?aP (fun _ hk => hk.elim) ?aF ?aO ?aB ?aS ?aL ?_; (case aP => exact rfl); (case aB => exact (by repeat (first | (with_reducible first | exact HB.out | apply below_alloc | apply pw_below_drewN | apply below_drew1) | exact HB.out))); (case aF => exact (fun k_ hk => (Nat.le_trans (below_size (by repeat (first | (with_reducible first | exact HB.out | apply below_alloc | apply pw_below_drewN | apply below_drew1) | exact HB.out))) hk))); (case aO => exact (by (with_reducible repeat (first | apply Kd.R_alloc | apply Kd.R_drewN | apply Kd.R_drew)); exact HO_3.out)); (case aS => exact (below_size (by repeat (first | (with_reducible first | exact HB.out | apply below_alloc | apply pw_below_drewN | apply below_drew1) | exact HB.out)))); (case aL => have := LMc11.out; omega); intro v267 w13 ho hb hg hat; rw [← Ny266.out] at ho; have n0_ := Aside0.mk (Kd.V_afterv (ok := (fun k_ => (P0_ k_ ∨ w.heap.size ≤ k_))) (by (with_reducible repeat (first | apply Kd.V_alloc | apply Kd.V_drewN | apply Kd.V_drew)); exact HO_0.out) hg hat); have n1_ := Aside0.mk (hb); have n2_ := Aside0.mk (ho); clear HO_0; clear HB; clear HO_3; have HO_0 := n0_; have HB := n1_; have HO268 := n2_; clear n0_ n1_ n2_; clear ho hb hg hat) | (go_at_call 72; (with_reducible refine (turncockref20_drop.calls _ _ x0_1 x4_2 t269 _ ?side1 ?side2 A12.out).mono ?_); (case side1 => repeat (first | exact (Kd.V_reads' HO_0.out).2.2 | (with_reducible refine Kd.C_alloc ?_ _) | (with_reducible refine Kd.C_drewN ?_ _) | (with_reducible refine Kd.C_drew ?_))); (case side2 => exact (Kd.V_reads' HO_0.out).2.1); rintro e w14 ⟨v270, rfl, ho0, hb⟩; have n0_ := Aside0.mk (Kd.V_elder' (by (with_reducible repeat (first | apply Kd.V_alloc | apply Kd.V_drewN | apply Kd.V_drew)); exact HO_0.out) (Kd.R_base ho0) hb); have n1_ := Aside0.mk (Kd.R_below (by (with_reducible repeat (first | apply Kd.R_alloc | apply Kd.R_drewN | apply Kd.R_drew)); exact HO268.out) hb); have n2_ := Aside0.mk (Kd.R_lower (Kd.R_newM (M := fun k_ => (w.heap.size ≤ k_)) ho0 (below_size (by repeat (first | (with_reducible first | exact HB.out | apply below_alloc | apply pw_below_drewN | apply below_drew1) | exact HB.out))) (fun k_ h_ => h_)) (below_size (by repeat (first | (with_reducible first | exact HB.out | apply below_alloc | apply pw_below_drewN | apply below_drew1) | exact HB.out)))); have n3_ := Aside0.mk (below_step (by repeat (first | (with_reducible first | exact HB.out | apply below_alloc | apply pw_below_drewN | apply below_drew1) | exact HB.out)) hb); clear HO_0; clear HO268; clear HB; have HO_0 := n0_; have HO268 := n1_; have HO271 := n2_; have HB := n3_; clear n0_ n1_ n2_ n3_; (try clear hb); (try clear hb2); (try clear hk); (try clear hi); (try clear ho0))))
                    go_roundg k2
                    case measure => have := HK1.out; have := HK2.out; omega
                    case rel => exact ⟨(t269), (y266), H', ⟨by have := HK1.out; have := HK2.out; omega⟩, ⟨Kd.V_mono (Kd.R_V (by (with_reducible repeat (first | apply Kd.R_alloc | apply Kd.R_drewN | apply Kd.R_drew)); exact Kd.R_mono (ok' := fun k_ => w.heap.size ≤ k_ ∧ some k_ ≠ v267.ownBlock) (Kd.R_apart' HO271.out (Kd.R_typed HO268.out) (by decide)) (fun _ hk => ⟨hk.1.1, hk.2⟩))) (fun k_ hk => by first | exact ⟨(.inr (hk.1)), hk.2⟩ | exact (.inr (hk)))⟩, ⟨by (with_reducible repeat (first | apply Kd.R_alloc | apply Kd.R_drewN | apply Kd.R_drew)); exact HO268.out⟩, ⟨by repeat (first | (with_reducible first | exact HB.out | apply below_alloc | apply pw_below_drewN | apply below_drew1) | exact HB.out)⟩⟩
                  · rw [if_neg c11] at H
                    exact absurd H (by simp)
                · rw [if_neg c10] at H
                  exact absurd H (by simp)
              · rw [if_neg c9] at H
                exact absurd H (by simp)
      · rw [if_neg c2] at H
        have c2b0 : decide (0 < (x0_1.length : Int)) = false := decide_eq_false c2
        have c2b1 : decide (0 < x0_1.length) = false := decide_eq_false (by omega)
        clear c2
        obtain rfl := Option.some.inj H
        obtain ⟨Ao15, co15, eo15⟩ := Kd.V_slice HO_0.out
        subst eo15
        go_wp2
        repeat (go_quiet (fail); try go_wp2)
        go_ret
        exact ⟨_, by first | rfl | (simp [errW_none, errW_some] <;> rfl) | (simp [*, errW_none, errW_some] <;> rfl), by (with_reducible repeat (first | apply Kd.R_alloc | apply Kd.R_drewN | apply Kd.R_drew)); exact HO_3.out, by repeat (first | (with_reducible first | exact HB.out | apply below_alloc | apply pw_below_drewN | apply below_drew1) | exact HB.out)⟩

-- NOT PRINTED: function 51 (turncocklaw21_walks)

-- NOT PRINTED: function 10 (turncocklaw21_ProbeActs)

end Go.Proofs.Ytjgoddieamphpaa.PProbeActs
namespace Go.Proofs.Ytjgoddieamphpaa.Obj
open Go.RowKit Go.Proofs.YtjgoddieamphpaaW.PrintWords Go.Proofs.YtjgoddieamphpaaW.PrintLast Probe Go.Proofs.Ytjgoddieamphpaa.PProbeActs
set_option maxRecDepth 100000
set_option linter.unusedVariables false
def keyL (L : List S98) (i : Nat) : ByteArray := (L.getD i z98).f0
/-- Where the least key of the first j places stands. -/
def lst (L : List S98) : Nat → Nat
  | 0 => 0
  | j + 1 => if Op.bytesLess (keyL L j).toList (keyL L (lst L j)).toList = true then j else lst L j
theorem lst_lt (L : List S98) : ∀ j, 0 < j → lst L j < j
  | 0, h => by omega
  | j + 1, _ => by
    unfold lst
    split
    · omega
    · by_cases hj : j = 0
      · subst hj; unfold lst; omega
      · have := lst_lt L j (by omega); omega
theorem blt_irr (x : List UInt8) : Op.bytesLess x x = false := by
  induction x with
  | nil => rfl
  | cons a t ih =>
    unfold Op.bytesLess
    rw [ih]
    simp
theorem lst_one (L : List S98) : lst L 1 = 0 := by
  unfold lst
  rw [if_neg]
  · rfl
  · show ¬ Op.bytesLess (keyL L 0).toList (keyL L (lst L 0)).toList = true
    rw [show lst L 0 = 0 from rfl, blt_irr]
    decide
def selN : Nat → List S98 → List ByteArray
  | 0, _ => []
  | n + 1, L => if L.length = 0 then [] else keyL L (lst L L.length) :: selN n (dropAt L (lst L L.length))
theorem rd_key (L : List S98) (i : Nat) : (rd_T98 L (i : Int)).f0 = keyL L i := by unfold rd_T98 keyL; rw [Int.toNat_natCast]
theorem names_l1 (L : List S98) (out : List ByteArray) (hN : L.length ≤ 1000000) (ho : out.length ≤ 1000000) : ∀ d j k, L.length = j + d → 0 < j → d < k →
    turncockref20_Names.l1 k L out (lst L j : Nat) (j : Nat) = turncockref20_Names.l0 (k - 1 - d) (dropAt L (lst L L.length)) (out ++ [keyL L (lst L L.length)])
  | 0, j, k, hd, hj, hk => by
    obtain ⟨k, rfl⟩ : ∃ m, k = m + 1 := ⟨k - 1, by omega⟩
    simp only [turncockref20_Names.l1]
    obtain rfl : j = L.length := by omega
    have hl := lst_lt L L.length hj
    rw [if_neg (by omega), if_pos (by omega), if_pos (by omega), if_pos (by omega), drop_f L _ hN hl, rd_key]
    simp only [Option.bind_some, Nat.add_sub_cancel, Nat.sub_zero]
  | d + 1, j, k, hd, hj, hk => by
    obtain ⟨k, rfl⟩ : ∃ m, k = m + 1 := ⟨k - 1, by omega⟩
    simp only [turncockref20_Names.l1]
    have hl := lst_lt L j hj
    have w1 : wrap64 ((j : Int) + 1) = ((j + 1 : Nat) : Int) := by unfold wrap64; omega
    rw [if_pos (by omega), if_pos (by omega), if_pos (by omega), if_pos (by omega), rd_key, rd_key, w1]
    have ih := names_l1 L out hN ho d (j + 1) k (by omega) (by omega) (by omega)
    have e : k + 1 - 1 - (d + 1) = k - 1 - d := by omega
    rw [e, ← ih]
    by_cases hb : Op.bytesLess (keyL L j).toList (keyL L (lst L j)).toList = true
    · rw [if_pos hb]
      have : lst L (j + 1) = j := by show (if _ then j else lst L j) = j; rw [if_pos hb]
      rw [this]
    · rw [if_neg hb]
      have : lst L (j + 1) = lst L j := by show (if _ then j else lst L j) = lst L j; rw [if_neg hb]
      rw [this]
theorem names_l0 : ∀ (n : Nat) (L : List S98) (out : List ByteArray) (k : Nat), L.length = n → n ≤ 1000 → out.length + n ≤ 2000 → (n + 2) * (n + 2) < k → turncockref20_Names.l0 k L out = some (out ++ selN n L)
  | 0, L, out, k, hn, _, _, hk => by
    obtain ⟨k, rfl⟩ : ∃ m, k = m + 1 := ⟨k - 1, by omega⟩
    simp only [turncockref20_Names.l0]
    rw [if_neg (by omega)]
    simp [selN]
  | n + 1, L, out, k, hn, h1, h2, hk => by
    obtain ⟨k, rfl⟩ : ∃ m, k = m + 1 := ⟨k - 1, by omega⟩
    simp only [turncockref20_Names.l0]
    rw [if_pos (by omega)]
    have e : (n + 1 + 2) * (n + 1 + 2) = (n + 2) * (n + 2) + (2 * n + 5) := by simp only [Nat.add_mul, Nat.mul_add]; omega
    have hl1 := names_l1 L out (by omega) (by omega) n 1 k (by omega) (by omega) (by omega)
    rw [lst_one] at hl1
    rw [show ((0 : Nat) : Int) = 0 from rfl, show ((1 : Nat) : Int) = 1 from rfl] at hl1
    rw [hl1]
    have hl := lst_lt L L.length (by omega)
    rw [names_l0 n (dropAt L (lst L L.length)) _ _ (by have := dropAt_len L _ hl; omega) (by omega) (by rw [List.length_append]; simp; omega) (by omega)]
    show _ = some (out ++ (if L.length = 0 then [] else keyL L (lst L L.length) :: selN n (dropAt L (lst L L.length))))
    rw [if_neg (by omega), List.append_assoc]
    rfl
theorem names_f (L : List S98) (h : L.length ≤ 1000) : ∃ k, turncockref20_Names.f k L = some (selN L.length L) := by
  refine ⟨(L.length + 2) * (L.length + 2) + 1, ?_⟩
  unfold turncockref20_Names.f
  rw [names_l0 L.length L [] _ rfl h (by simp; omega) (by omega)]
  rfl
end Go.Proofs.Ytjgoddieamphpaa.Obj
namespace Go.Proofs.Ytjgoddieamphpaa.Obj
open Go.RowKit Go.Sort Go.Proofs.YtjgoddieamphpaaW.PrintWords Go.Proofs.YtjgoddieamphpaaW.PrintLast Probe Go.Proofs.Ytjgoddieamphpaa.PProbeActs
set_option maxRecDepth 100000
set_option linter.unusedVariables false
theorem lst_min (L : List S98) : ∀ j i, i < j → (keyL L (lst L j)).data.toList ≤ (keyL L i).data.toList
  | 0, i, h => by omega
  | j + 1, i, h => by
    unfold lst
    have hb : Op.bytesLess (keyL L j).toList (keyL L (lst L j)).toList = decide ((keyL L j).data.toList < (keyL L (lst L j)).data.toList) := by
      rw [bytesLess_eq, ByteArray.toList_eq, ByteArray.toList_eq]
    rw [hb]
    by_cases hlt : (keyL L j).data.toList < (keyL L (lst L j)).data.toList
    · rw [decide_eq_true hlt, if_pos rfl]
      by_cases hi : i = j
      · subst hi; exact List.le_refl _
      · exact List.le_trans (List.le_of_lt hlt) (lst_min L j i (by omega))
    · rw [decide_eq_false hlt, if_neg (by decide)]
      by_cases hi : i = j
      · subst hi; exact List.not_lt.1 hlt
      · exact lst_min L j i (by omega)
theorem selN_perm : ∀ (n : Nat) (L : List S98), L.length = n → (selN n L).Perm (L.map (·.f0))
  | 0, L, h => by
    obtain rfl : L = [] := List.length_eq_zero_iff.1 h
    exact List.Perm.refl _
  | n + 1, L, h => by
    have hl := lst_lt L L.length (by omega)
    show (if L.length = 0 then [] else keyL L (lst L L.length) :: selN n (dropAt L (lst L L.length))).Perm _
    rw [if_neg (by omega)]
    have ih := selN_perm n (dropAt L (lst L L.length)) (by have := dropAt_len L _ hl; omega)
    refine (List.Perm.cons _ ih).trans ?_
    have hp := (perm_at L (lst L L.length) hl).map (fun x : S98 => x.f0)
    exact hp.symm
theorem selN_sorted : ∀ (n : Nat) (L : List S98), L.length = n → (selN n L).Pairwise (fun x y => x.data.toList ≤ y.data.toList)
  | 0, L, h => List.Pairwise.nil
  | n + 1, L, h => by
    have hl := lst_lt L L.length (by omega)
    show (if L.length = 0 then [] else keyL L (lst L L.length) :: selN n (dropAt L (lst L L.length))).Pairwise _
    rw [if_neg (by omega)]
    have hd : (dropAt L (lst L L.length)).length = n := by have := dropAt_len L _ hl; omega
    refine List.Pairwise.cons (fun y hy => ?_) (selN_sorted n _ hd)
    have hy2 := (selN_perm n _ hd).mem_iff.1 hy
    obtain ⟨x, hx, rfl⟩ := List.mem_map.1 hy2
    have hx2 : x ∈ L := by
      unfold dropAt at hx
      rcases List.mem_append.1 hx with h1 | h1
      · exact List.mem_of_mem_take h1
      · exact List.mem_of_mem_drop h1
    obtain ⟨i, hi, rfl⟩ := List.getElem_of_mem hx2
    have := lst_min L L.length i hi
    have e : keyL L i = L[i].f0 := by unfold keyL; rw [List.getD_eq_getElem?_getD, List.getElem?_eq_getElem hi]; rfl
    rw [e] at this
    exact this
/-- What the document's Names tells is what the library's sort makes of the keys, in whatever order they stood. -/
theorem selN_sortB (L : List S98) (ks : List ByteArray) (h : ks.Perm (L.map (·.f0))) : selN L.length L = sortB ks := by
  have hp : ((selN L.length L).map fun x => x.data.toList).Perm ((ks.map fun x => x.data.toList).mergeSort leB) :=
    (((selN_perm L.length L rfl).trans h.symm).map _).trans (List.mergeSort_perm _ _).symm
  have tr : ∀ a b c : List UInt8, leB a b = true → leB b c = true → leB a c = true := fun a b c h1 h2 => by simp only [leB, decide_eq_true_eq] at *; exact List.le_trans h1 h2
  have tot : ∀ a b : List UInt8, (leB a b || leB b a) = true := fun a b => by simp only [leB, Bool.or_eq_true, decide_eq_true_eq]; exact List.le_total a b
  have e : ((selN L.length L).map fun x => x.data.toList) = (ks.map fun x => x.data.toList).mergeSort leB := by
    refine List.Perm.eq_of_pairwise (le := fun a b => leB a b = true) (fun a b _ _ h1 h2 => ?_) ?_ (List.pairwise_mergeSort tr tot _) hp
    · simp only [leB, decide_eq_true_eq] at h1 h2
      exact List.le_antisymm h1 h2
    · rw [List.pairwise_map]
      exact (selN_sorted L.length L rfl).imp (fun h => decide_eq_true h)
  unfold sortB
  show selN L.length L = ((ks.map fun x => x.data.toList).mergeSort leB).map fun l => ⟨l.toArray⟩
  rw [← e, List.map_map]
  have : ((fun l : List UInt8 => (⟨l.toArray⟩ : ByteArray)) ∘ fun x : ByteArray => x.data.toList) = id := by funext x; rfl
  rw [this, List.map_id]
end Go.Proofs.Ytjgoddieamphpaa.Obj
namespace Go.Proofs.Ytjgoddieamphpaa.Obj
open Go.RowKit Go.Sort Go.Proofs.YtjgoddieamphpaaW.PrintWords Go.Proofs.YtjgoddieamphpaaW.PrintLast Probe Go.Proofs.Ytjgoddieamphpaa.PProbeActs
set_option maxRecDepth 100000
set_option linter.unusedVariables false
theorem rnames {w : World} {m most : Nat} {L : List S98} {A : Option Addr} {c : Nat} (h : RM w m most L (.slice A L.length c)) (hl : L.length ≤ 1000) :
    Calls Try.prog 81 #[.slice A L.length c] w fun e w' => ∃ (A1 : Option Addr) (c1 : Nat), e = .returned (.slice A1 L.length c1) ∧ Kd.R Kd.string 9 w' w.heap.size (fun _ => True) (.slice A1 L.length c1) (selN L.length L) ∧ Frm (fun _ => False) w w' := by
  obtain ⟨k, hk⟩ := names_f L hl
  refine (turncockref20_Names.calls k (fun _ => True) A c L (selN L.length L) w (Kd.R_V h.row) hk).mono ?_
  rintro e w' ⟨v0, rfl, hr, hb⟩
  obtain ⟨A1, c1, rfl⟩ := Kd.R_slice hr
  have e1 : (selN L.length L).length = L.length := by rw [(selN_perm L.length L rfl).length_eq, List.length_map]
  rw [e1] at hr ⊢
  exact ⟨A1, c1, rfl, Kd.R_mono hr (fun _ _ => trivial), Frm.of_below hb⟩
theorem itkeys {w : World} {p b most : Nat} {L : List S98} {φ : Int → Int} (h : TLI φ w p b most L) (hm : most ≤ 100000) :
    Calls Try.prog 80 #[.pointer (some ⟨p, 0, none⟩)] w fun e w' => ∃ (A : Option Addr) (c : Nat), e = .returned (.slice A L.length c) ∧ Kd.R Kd.string 9 w' w.heap.size (fun _ => True) (.slice A L.length c) (selN L.length L) ∧ Frm (fun _ => False) w w' := by
  obtain ⟨sl, ht, hp⟩ := h
  refine (ikeys ht hm).mono ?_
  rintro e w' ⟨A, c, rfl, hr, hf⟩
  have e0 : ku sl (2 * most) = (items sl).map (·.1) := by rw [← ht.len]; exact ku_all sl
  have hk : (ku sl (2 * most)).Perm (L.map (·.f0)) := by
    rw [e0]
    have := hp.map (fun x : Ent Int => x.1)
    rw [List.map_map] at this
    exact this
  have e1 : (ku sl (2 * most)).length = L.length := by rw [hk.length_eq, List.length_map]
  rw [← selN_sortB L _ hk, e1] at hr
  rw [e1]
  exact ⟨A, c, rfl, hr, hf⟩
end Go.Proofs.Ytjgoddieamphpaa.Obj
