/- Maps of texts to numbers, and what counts in them: a part of the proof. -/
import Derived.Test.YtehlhaddbfjllaaOSR
import Derived.Test.YtehlhaddbfjllaaOSJ
namespace Go.Proofs.Ytehlhaddbfjllaa.Mp
open Go.RowKit Go.Sort Go.Proofs.YtehlhaddbfjllaaW.PrintWords Go.Proofs.YtehlhaddbfjllaaW.PrintLast Go.Proofs.YtehlhaddbfjllaaW.PrintMore Go.Proofs.Ytehlhaddbfjllaa.PStatActs
set_option maxRecDepth 100000
set_option linter.unusedVariables false
/-- Stats, and the document's, side by side. -/
structure SD (w0 w : World) (p mb r : Nat) (K M : List KV) : Prop where
  s : SI w0 w p mb K
  d : ∃ A c L, DI w0 w r A c L ∧ M.Perm (prL L)
  nd : ND M
section
variable {w0 w w1 : World} {p mb r : Nat} {K K' M M' : List KV} {A : Option Addr} {c : Nat} {L : List S79}
theorem SI.movedK (h : SI w0 w p mb K) (k : KD w w1) (f : Frm (fun _ => False) w0 w1) : SI w0 w1 p mb K := by
  refine ⟨k p _ h.hd (fun cs t f e => ?_), h.m.frm ?_, h.few, h.sm, h.lp, h.lm, f⟩
  · injection e with e1 e2
    subst e2
    decide
  · obtain ⟨es, c, hb⟩ := h.m.blk
    rw [hb]
    exact k mb _ hb (fun cs t f e => by cases e)
theorem DI.movedM (h : DI w0 w r A c L) (hs : SI w0 w p mb K) (f : Frm (fun i => i = mb) w w1) : DI w0 w1 r A c L := by
  have hm := hs.keep f h.hd
  refine ⟨hm, rowA h.row f (fun b cs t hb hc => ?_), h.few, h.sm, h.up, h.lr, h.f.then f (fun i hi e => by have := hs.lm; omega), h.em⟩
  subst hb
  obtain ⟨es, c, hb⟩ := hs.m.blk
  rw [hb] at hc
  cases hc
theorem SD.movedN (h : SD w0 w p mb r K M) (f : Frm (fun _ => False) w w1) : SD w0 w1 p mb r K M := by
  obtain ⟨s, ⟨A, c, L, d, hp⟩, nd⟩ := h
  exact ⟨s.movedN f, ⟨A, c, L, d.movedN f, hp⟩, nd⟩
theorem SD.movedS (h : SD w0 w p mb r K M) (s' : SI w0 w1 p mb K') (f : Frm (fun i => i = mb) w w1) : SD w0 w1 p mb r K' M := by
  obtain ⟨s, ⟨A, c, L, d, hp⟩, nd⟩ := h
  exact ⟨s', ⟨A, c, L, d.movedM s f, hp⟩, nd⟩
theorem SD.does (h : SD w0 w p mb r K M) (x : S53) (hs : x.f1.size ≤ 900) (hf : K.length + 6 ≤ 100000) : Calls Try.prog 23 #[.pointer (some ⟨p, 0, none⟩), .agg #[.int .i64 x.f0, .string x.f1, .int .i64 x.f2, .int .i64 x.f3.f0, .int .i64 x.f3.f1, .bool x.f3.f2, .int .i64 x.f3.f3, .int .i64 x.f3.f4, .int .i64 x.f3.f5, .bool x.f4]] w fun e w' => e = .returned (.tuple #[]) ∧ SD w0 w' p mb r (addsK K (actA x)) M := by
  refine (h.s.does x hs hf).mono ?_
  rintro e w' ⟨a, b, f⟩
  exact ⟨a, h.movedS b f⟩
theorem SD.dadd (h : SD w0 w p mb r K M) (k : ByteArray) (hs : k.size ≤ 1000) (hf : M.length < 100000) (n : Int) : Calls Try.prog 24 #[.pointer (some ⟨r, 0, none⟩), .string k, .int .i64 n] w fun e w' => e = .returned (.tuple #[]) ∧ SD w0 w' p mb r K (addK M k n) ∧ KD w w' := by
  obtain ⟨s, ⟨A, c, L, d, hp⟩, nd⟩ := h
  by_cases hn : 1 ≤ n
  · have hl : L.length < 100000 := by have := hp.length_eq; unfold prL at this; rw [List.length_map] at this; omega
    refine (d.add_yes k hs hl n hn).mono ?_
    rintro e w' ⟨a, A', c', L', d', hp', hk⟩
    exact ⟨a, ⟨s.movedK hk d'.f, ⟨A', c', L', d', (addK_perm nd hp k n).trans hp'⟩, addK_nd nd k n⟩, hk⟩
  · refine (d.add_no k n (by omega)).mono ?_
    rintro e w' ⟨a, rfl⟩
    have e1 : addK M k n = M := if_neg hn
    rw [e1]
    exact ⟨a, ⟨s, ⟨A, c, L, d, hp⟩, nd⟩, KD.refl _⟩
/-- An Add, with a block of the caller's. -/
theorem SD.daddx {xb : Nat} {X : Array Value} {t : TypeId} (h : SD w0 w p mb r K M) (hx : w.heap[xb]? = some (.cells X t (0, 0))) (ht : t ≠ 48 ∧ t ≠ 79) (k : ByteArray) (hs : k.size ≤ 1000) (hf : M.length < 100000) (n : Int) : Calls Try.prog 24 #[.pointer (some ⟨r, 0, none⟩), .string k, .int .i64 n] w fun e w' => e = .returned (.tuple #[]) ∧ SD w0 w' p mb r K (addK M k n) ∧ w'.heap[xb]? = some (.cells X t (0, 0)) := by
  refine (h.dadd k hs hf n).mono ?_
  rintro e w' ⟨a, b, hk⟩
  exact ⟨a, b, hk xb _ hx (fun cs t f e => by injection e with _ e2; subst e2; exact ht)⟩
theorem SD.get (h : SD w0 w p mb r K M) (k : ByteArray) (hs : k.size ≤ 1000) : Calls Try.prog 26 #[.pointer (some ⟨p, 0, none⟩), .string k] w fun e w' => e = .returned (.int .i64 (getK K k)) ∧ w = w' := h.s.get k hs
theorem SD.dget (h : SD w0 w p mb r K M) (k : ByteArray) : Calls Try.prog 27 #[.pointer (some ⟨r, 0, none⟩), .string k] w fun e w' => e = .returned (.int .i64 (getK M k)) ∧ w = w' := by
  obtain ⟨s, ⟨A, c, L, d, hp⟩, nd⟩ := h
  rw [getK_perm nd hp]
  exact d.get k
theorem SD.list (h : SD w0 w p mb r K M) (q : ByteArray) : Calls Try.prog 29 #[.pointer (some ⟨p, 0, none⟩), .string q] w fun e w' => ∃ (B : Option Addr) (d : Nat), e = .returned (.slice B (listK K q).length d) ∧ Kd.R k79 79 w' w.heap.size (fun _ => True) (.slice B (listK K q).length d) (listK K q) ∧ Frm (fun _ => False) w w' := h.s.list q
theorem SD.dlist (h : SD w0 w p mb r K M) (q : ByteArray) : Calls Try.prog 30 #[.pointer (some ⟨r, 0, none⟩), .string q] w fun e w' => ∃ (B : Option Addr) (d : Nat), e = .returned (.slice B (listK M q).length d) ∧ Kd.R k79 79 w' w.heap.size (fun _ => True) (.slice B (listK M q).length d) (listK M q) ∧ Frm (fun _ => False) w w' := by
  obtain ⟨s, ⟨A, c, L, d, hp⟩, nd⟩ := h
  rw [list_law nd hp d.up]
  exact d.list q
theorem SD.text (h : SD w0 w p mb r K M) (q : ByteArray) : Calls Try.prog 31 #[.pointer (some ⟨p, 0, none⟩), .string q] w fun e w' => e = .returned (.string (textB (listK K q))) ∧ Frm (fun _ => False) w w' := h.s.text q
theorem SD.dtext (h : SD w0 w p mb r K M) (q : ByteArray) : Calls Try.prog 32 #[.pointer (some ⟨r, 0, none⟩), .string q] w fun e w' => e = .returned (.string (textB (listK M q))) ∧ Frm (fun _ => False) w w' := by
  obtain ⟨s, ⟨A, c, L, d, hp⟩, nd⟩ := h
  rw [list_law nd hp d.up]
  exact d.text q
/-- The document's whole row. -/
theorem SD.rows (h : SD w0 w p mb r K M) : ∃ (A : Option Addr) (c : Nat), w.cell? ⟨r, 0, none⟩ = some (.slice A (listK M ⟨#[]⟩).length c) ∧ Kd.R k79 79 w w0.heap.size (fun _ => True) (.slice A (listK M ⟨#[]⟩).length c) (listK M ⟨#[]⟩) := by
  obtain ⟨s, ⟨A, c, L, d, hp⟩, nd⟩ := h
  rw [list_all nd hp d.up]
  exact ⟨A, c, d.c0, d.row⟩
end
end Go.Proofs.Ytehlhaddbfjllaa.Mp
