/- Maps of texts to numbers, and what counts in them: a part of the proof. -/
import Derived.Test.YtehlhaddbfjllaaOMN
namespace Go.Proofs.Ytehlhaddbfjllaa.Mp
open Go.RowKit Go.Sort Go.Proofs.YtehlhaddbfjllaaW.PrintWords Go.Proofs.YtehlhaddbfjllaaW.PrintLast Go.Proofs.YtehlhaddbfjllaaW.PrintMore Go.Proofs.Ytehlhaddbfjllaa.PMarksActs
set_option maxRecDepth 100000
set_option linter.unusedVariables false
attribute [local go_sem ↓] Go.wp_at_zero Go.wp_at_succ
/-- Marks, and the document's, side by side. -/
structure SM (w0 w : World) (p mb r most : Nat) (K : List KV) : Prop where
  s : MK w0 w p mb most K
  d : ∃ A c L, DM w0 w r most A c L ∧ K.Perm (prM L)
section
variable {w0 w w1 : World} {p mb r most : Nat} {K K' : List KV} {A : Option Addr} {c : Nat} {L : List S75}
theorem MK.movedK (h : MK w0 w p mb most K) (k : KE w w1) (f : Frm (fun _ => False) w0 w1) : MK w0 w1 p mb most K := by
  refine ⟨k p _ h.hd (fun cs t f e => ?_), h.m.frm ?_, h.few, h.big, h.sm, h.lp, h.lm, f⟩
  · injection e with e1 e2
    subst e2
    decide
  · obtain ⟨es, c, hb⟩ := h.m.blk
    rw [hb]
    exact k mb _ hb (fun cs t f e => by cases e)
theorem DM.movedM (h : DM w0 w r most A c L) (hs : MK w0 w p mb most K) (f : Frm (fun i => i = mb) w w1) : DM w0 w1 r most A c L := by
  refine ⟨hs.keep f h.hd, row75 h.row f (fun b cs t hb hc => ?_), h.few, h.big, h.lr, h.f.then f (fun i hi e => by have := hs.lm; omega)⟩
  subst hb
  obtain ⟨es, c, hb⟩ := hs.m.blk
  rw [hb] at hc
  cases hc
theorem SM.movedN (h : SM w0 w p mb r most K) (f : Frm (fun _ => False) w w1) : SM w0 w1 p mb r most K := by
  obtain ⟨s, A, c, L, d, hp⟩ := h
  exact ⟨s.movedN f, A, c, L, d.movedN f, hp⟩
/-- Marks have had a Put; the document's not yet. -/
structure SN (w0 w : World) (p mb r most : Nat) (K : List KV) (key : ByteArray) (u n : Int) : Prop where
  s : ∃ K', MK w0 w p mb most K' ∧ putR most K key u n K'
  d : ∃ A c L, DM w0 w r most A c L ∧ K.Perm (prM L)
  nd : ND K
theorem SM.put (h : SM w0 w p mb r most K) (key : ByteArray) (hk : key.size ≤ 1000) (u n : Int) : Calls Try.prog 14 #[.pointer (some ⟨p, 0, none⟩), .string key, .int .i64 u, .int .i64 n] w fun e w' => e = .returned (.tuple #[]) ∧ SN w0 w' p mb r most K key u n ∧ Frm (fun i => i = mb) w w' := by
  obtain ⟨s, A, c, L, d, hp⟩ := h
  refine (s.put key hk u n).mono ?_
  rintro e w' ⟨a, K', s', hr, f⟩
  exact ⟨a, ⟨⟨K', s', hr⟩, ⟨A, c, L, d.movedM s f, hp⟩, s.m.nd⟩, f⟩
theorem SN.put {key : ByteArray} {u n : Int} (h : SN w0 w p mb r most K key u n) : Calls Try.prog 15 #[.pointer (some ⟨r, 0, none⟩), .string key, .int .i64 u, .int .i64 n] w fun e w' => e = .returned (.tuple #[]) ∧ (∃ K', SM w0 w' p mb r most K') ∧ KE w w' := by
  obtain ⟨⟨K', s, hr⟩, ⟨A, c, L, d, hp⟩, nd⟩ := h
  refine (d.put key u n).mono ?_
  rintro e w' ⟨a, A', c', L', d', hd, hk⟩
  exact ⟨a, ⟨K', s.movedK hk d'.f, A', c', L', d', put_law nd hp hr hd⟩, hk⟩
theorem SM.len (h : SM w0 w p mb r most K) : Calls Try.prog 17 #[.pointer (some ⟨p, 0, none⟩)] w fun e w' => e = .returned (.int .i64 (K.length : Nat)) ∧ w = w' := h.s.len
theorem SM.row (h : SM w0 w p mb r most K) : ∃ (A : Option Addr) (c : Nat), w.cell? ⟨r, 1, none⟩ = some (.slice A K.length c) := by
  obtain ⟨s, A, c, L, d, hp⟩ := h
  have e : K.length = L.length := by rw [hp.length_eq, prM_len]
  rw [e]
  exact ⟨A, c, d.c1⟩
theorem SM.has (h : SM w0 w p mb r most K) (k : ByteArray) (hs : k.size ≤ 1000) (now : Int) : Calls Try.prog 18 #[.pointer (some ⟨p, 0, none⟩), .string k, .int .i64 now] w fun e w' => e = .returned (.bool (hasK K k && decide (now < getK K k))) ∧ w = w' := h.s.has k hs now
theorem SM.dhas (h : SM w0 w p mb r most K) (k : ByteArray) (now : Int) : Calls Try.prog 19 #[.pointer (some ⟨r, 0, none⟩), .string k, .int .i64 now] w fun e w' => e = .returned (.bool (hasK K k && decide (now < getK K k))) ∧ Frm (fun _ => False) w w' := by
  obtain ⟨s, A, c, L, d, hp⟩ := h
  exact d.has s.m.nd hp k now
theorem SM.clear (h : SM w0 w p mb r most K) : Calls Try.prog 16 #[.pointer (some ⟨p, 0, none⟩)] w fun e w' => e = .returned (.tuple #[]) ∧ MK w0 w' p mb most [] ∧ (∃ A c L, DM w0 w' r most A c L) ∧ Frm (fun i => i = mb) w w' := by
  obtain ⟨s, A, c, L, d, hp⟩ := h
  refine s.clear.mono ?_
  rintro e w' ⟨a, b, f⟩
  exact ⟨a, b, ⟨A, c, L, d.movedM s f⟩, f⟩
theorem sm_cleared (s : MK w0 w p mb most []) (d : DM w0 w r most A c L) : SM w0 (w.setCell ⟨r, 1, none⟩ (.slice none 0 0)) p mb r most [] ∧ KE w (w.setCell ⟨r, 1, none⟩ (.slice none 0 0)) := by
  have hk := KE.store (Below.refl w.heap.size w) d.hd 1 (.slice none 0 0)
  have d' := d.renew (L' := []) (B := none) (d := 0) (Kd.R_nil _ _ _ _ _) (Below.refl _ _) (Nat.zero_le _)
  exact ⟨⟨s.movedK hk d'.f, none, 0, [], d', List.Perm.refl _⟩, hk⟩
end
theorem dnew_any (n : Int) {most : Nat} (hm : most = mostOf n) (w : World) : Calls Try.prog 13 #[.int .i64 n] w fun e w' => e = .returned (.pointer (some ⟨w.heap.size, 0, none⟩)) ∧ w' = w.alloc (.cells #[.int .i64 (most : Int), .slice none 0 0] 34) := by
  have hE : max (min n 1024) 0 = (most : Int) := by rw [hm]; unfold mostOf; omega
  have HE := Lib.hid hE
  clear hE
  go_enter Try.func13, Try.ntmps13
  go_wp2
  go_ret
  exact ⟨rfl, by rw [HE.out]⟩
end Go.Proofs.Ytehlhaddbfjllaa.Mp
