/- A cache: part of the proof. -/
import Derived.Test.YtjgoddieamphpaaMA
import Derived.Test.YtjgoddieamphpaaMC
namespace Go.Proofs.Ytjgoddieamphpaa.Ca
open Go.RowKit Go.Sort Go.Proofs.YtjgoddieamphpaaW.PrintWords Go.Proofs.YtjgoddieamphpaaW.PrintLast Probe Go.Proofs.Ytjgoddieamphpaa.Obj Go.Proofs.Ytjgoddieamphpaa.PProbeActs
set_option maxRecDepth 100000
set_option linter.unusedVariables false
/-! A cache: a table and a wheel. -/
def kvC (L : List S98) : List Wh.KV := L.map fun c => (c.f0, c.f2)
theorem tli_perm {φ : Int → Int} {w : World} {p b most : Nat} {L L' : List S98} (h : TLI φ w p b most L) (hp : (L.map (PrI φ)).Perm (L'.map (PrI φ))) : TLI φ w p b most L' := by
  obtain ⟨sl, h1, h2⟩ := h
  exact ⟨sl, h1, h2.trans hp⟩
/-- What stays: all of a world's blocks but some. -/
structure Bs where
  w : World
  N : Nat → Prop
instance : Coe World Bs := ⟨fun w => ⟨w, fun _ => False⟩⟩
def Bs.lo (b : Bs) (x : Nat) : Prop := b.N x ∨ b.w.heap.size ≤ x
theorem Bs.lo.nn {b : Bs} {x : Nat} (h : b.lo x) (hx : x < b.w.heap.size) : b.N x := by
  rcases h with h | h
  · exact h
  · omega
theorem lo_up {b : Bs} {w : World} {S S' : Nat → Prop} (ls : ∀ x, S x → b.lo x) (hz : b.w.heap.size ≤ w.heap.size) (hs : ∀ x, S' x → S x ∨ w.heap.size ≤ x) : ∀ x, S' x → b.lo x := fun x hx => (hs x hx).elim (ls x) (fun e => .inr (Nat.le_trans hz e))
structure CC (w0 : Bs) (w : World) (cb pt b pw : Nat) (Sw : Nat → Prop) (most : Nat) (L : List S98) : Prop where
  hd : w.heap[cb]? = some (.cells #[.int .i64 most, .pointer (some ⟨pt, 0, none⟩), .pointer (some ⟨pw, 0, none⟩)] 119 (0, 0))
  t : TLI (fun x => x) w pt b most L
  k : Wh.WK w Sw pw (kvC L)
  lc : w0.lo cb
  lt : w0.lo pt
  lb : w0.lo b
  ls : ∀ x, Sw x → w0.lo x
  f : Frm w0.N w0.w w
def liveC (L : List S98) (k : ByteArray) (now : Int) : Bool := Wh.hasK (kvC L) k && decide (now < Wh.atK (kvC L) k)
def peekC (L : List S98) (k : ByteArray) (now : Int) : Int := if liveC L k now = true then getV L k else 0
section
variable {w0 : Bs} {w w1 : World} {cb pt b pw most : Nat} {Sw S' : Nat → Prop} {L L' : List S98}
theorem CC.c0 (h : CC w0 w cb pt b pw Sw most L) : w.cell? ⟨cb, 0, none⟩ = some (.int .i64 most) := (blk_cell h.hd 0).trans rfl
theorem CC.c1 (h : CC w0 w cb pt b pw Sw most L) : w.cell? ⟨cb, 1, none⟩ = some (.pointer (some ⟨pt, 0, none⟩)) := (blk_cell h.hd 1).trans rfl
theorem CC.c2 (h : CC w0 w cb pt b pw Sw most L) : w.cell? ⟨cb, 2, none⟩ = some (.pointer (some ⟨pw, 0, none⟩)) := (blk_cell h.hd 2).trans rfl
theorem CC.tout (h : CC w0 w cb pt b pw Sw most L) : ¬ Sw pt ∧ ¬ Sw b ∧ ¬ Sw cb ∧ cb ≠ pt ∧ cb ≠ b := by
  obtain ⟨⟨c1, b1⟩, ⟨c2, b2⟩⟩ := itl_blk h.t
  refine ⟨fun hs => ?_, fun hs => ?_, fun hs => ?_, blk_ne h.hd b1 (by decide), blk_ne h.hd b2 (by decide)⟩
  · rcases h.k.type _ _ _ hs b1 with e | e | e <;> cases e
  · rcases h.k.type _ _ _ hs b2 with e | e | e <;> cases e
  · rcases h.k.type _ _ _ hs h.hd with e | e | e <;> cases e
theorem CC.movedN (h : CC w0 w cb pt b pw Sw most L) (f : Frm (fun _ => False) w w1) : CC w0 w1 cb pt b pw Sw most L :=
  ⟨f.blk h.hd (fun e => e), itl_frm h.t f (fun e => e) (fun e => e), h.k.frm f (fun _ _ e => e), h.lc, h.lt, h.lb, h.ls, h.f.then f (fun _ _ e => e.elim)⟩
/-- The table has turned. -/
theorem CC.movedT (h : CC w0 w cb pt b pw Sw most L) (t' : TLI (fun x => x) w1 pt b most L') (f : Frm (fun i => i = pt ∨ i = b) w w1) : w1.heap[cb]? = some (.cells #[.int .i64 most, .pointer (some ⟨pt, 0, none⟩), .pointer (some ⟨pw, 0, none⟩)] 119 (0, 0)) ∧ Wh.WK w1 Sw pw (kvC L) ∧ Frm w0.N w0.w w1 := by
  obtain ⟨n1, n2, n3, n4, n5⟩ := h.tout
  refine ⟨f.blk h.hd (by rintro (e | e); exact n4 e; exact n5 e), h.k.frm f (by rintro x hx (e | e); exact n1 (e ▸ hx); exact n2 (e ▸ hx)), h.f.then f (by rintro i hi (e | e); exact e ▸ h.lt.nn (e ▸ hi); exact e ▸ h.lb.nn (e ▸ hi))⟩
/-- The wheel has turned. -/
theorem CC.movedW {w : World} {L2 : List S98} (hd : w.heap[cb]? = some (.cells #[.int .i64 most, .pointer (some ⟨pt, 0, none⟩), .pointer (some ⟨pw, 0, none⟩)] 119 (0, 0))) (t : TLI (fun x => x) w pt b most L2) {K : List Wh.KV} (k : Wh.WK w Sw pw K) (lc : w0.lo cb) (lt : w0.lo pt) (lb : w0.lo b) (ls : ∀ x, Sw x → w0.lo x) (f0 : Frm w0.N w0.w w)
    (k' : Wh.WK w1 S' pw (kvC L2)) (f : Frm Sw w w1) (hs : ∀ x, S' x → Sw x ∨ w.heap.size ≤ x) : CC w0 w1 cb pt b pw S' most L2 := by
  obtain ⟨⟨c1, b1⟩, ⟨c2, b2⟩⟩ := itl_blk t
  refine ⟨f.blk hd (fun e => ?_), itl_frm t f (fun e => ?_) (fun e => ?_), k', lc, lt, lb, lo_up ls f0.size hs, f0.then f (fun i hi e => (ls i e).nn hi)⟩
  · rcases k.type _ _ _ e hd with e | e | e <;> cases e
  · rcases k.type _ _ _ e b1 with e | e | e <;> cases e
  · rcases k.type _ _ _ e b2 with e | e | e <;> cases e
theorem CC.live (h : CC w0 w cb pt b pw Sw most L) (k : ByteArray) (hs : k.size ≤ 1000) (now : Int) : Calls Try.prog 76 #[.pointer (some ⟨cb, 0, none⟩), .string k, .int .i64 now] w fun e w' => e = .returned (.bool (liveC L k now)) ∧ w = w' := by
  have c2 := h.c2
  have HK := Aside0.mk h.k
  have hs := Lib.hid hs
  unfold liveC
  clear h
  cases hh : Wh.hasK (kvC L) k with
  | false =>
    have HC : Aside0 (Calls Try.prog 36 #[.pointer (some ⟨pw, 0, none⟩), .string k] w fun e w' => e = .returned (.tuple #[.int .i64 (Wh.atK (kvC L) k), .bool false]) ∧ w = w') := ⟨by rw [← hh]; exact HK.out.at_ k hs.out⟩
    clear hh
    go_enter Try.func76, Try.ntmps76
    go_wp2_with fail
    (with_reducible refine HC.out.mono ?_); rintro e w2 ⟨rfl, rfl⟩
    go_wp2
    go_ret
    exact ⟨rfl, rfl⟩
  | true =>
    have HC : Aside0 (Calls Try.prog 36 #[.pointer (some ⟨pw, 0, none⟩), .string k] w fun e w' => e = .returned (.tuple #[.int .i64 (Wh.atK (kvC L) k), .bool true]) ∧ w = w') := ⟨by rw [← hh]; exact HK.out.at_ k hs.out⟩
    clear hh
    go_enter Try.func76, Try.ntmps76
    go_wp2_with fail
    (with_reducible refine HC.out.mono ?_); rintro e w2 ⟨rfl, rfl⟩
    go_wp2
    go_ret
    exact ⟨rfl, rfl⟩
theorem CC.get (h : CC w0 w cb pt b pw Sw most L) (k : ByteArray) (hs : k.size ≤ 1000) : Calls Try.prog 49 #[.pointer (some ⟨pt, 0, none⟩), .string k] w fun e w' => e = .returned (.tuple #[.int .i64 (getV L k), .bool (hasB L k)]) ∧ w = w' := by
  refine (itget h.t k (by omega) 0 rfl).mono ?_
  rintro e w' ⟨a, c⟩
  refine ⟨a.trans ?_, c⟩
  unfold getV
  cases idx L k <;> rfl
theorem CC.peek (h : CC w0 w cb pt b pw Sw most L) (k : ByteArray) (hs : k.size ≤ 1000) (now : Int) : Calls Try.prog 43 #[.pointer (some ⟨cb, 0, none⟩), .string k, .int .i64 now] w fun e w' => e = .returned (.int .i64 (peekC L k now)) ∧ w = w' := by
  have c1 := h.c1
  have H := Aside0.mk h
  have hs := Lib.hid hs
  unfold peekC
  have HC := Aside0.mk (h.live k hs.out now)
  clear h
  cases hh : liveC L k now with
  | false =>
    rw [hh] at HC
    rw [if_neg (by decide)]
    clear hh
    go_enter Try.func43, Try.ntmps43
    go_wp2_with fail
    (with_reducible refine HC.out.mono ?_); rintro e w2 ⟨rfl, rfl⟩
    go_wp2
    go_ret
    exact ⟨rfl, rfl⟩
  | true =>
    rw [hh] at HC
    rw [if_pos rfl]
    clear hh
    go_enter Try.func43, Try.ntmps43
    go_wp2_with fail
    (with_reducible refine HC.out.mono ?_); rintro e w2 ⟨rfl, rfl⟩
    go_wp2_with fail
    (with_reducible refine (H.out.get k hs.out).mono ?_); rintro e w2 ⟨rfl, rfl⟩
    go_wp2
    go_ret
    exact ⟨rfl, rfl⟩
theorem CC.held (h : CC w0 w cb pt b pw Sw most L) : Calls Try.prog 46 #[.pointer (some ⟨cb, 0, none⟩)] w fun e w' => e = .returned (.int .i64 (L.length : Nat)) ∧ w = w' := by
  have c1 := h.c1
  have H := Aside0.mk h
  clear h
  go_enter Try.func46, Try.ntmps46
  go_wp2_with fail
  (with_reducible refine (itlen H.out.t).mono ?_); rintro e w2 ⟨rfl, rfl⟩
  go_wp2
  go_ret
  exact ⟨rfl, rfl⟩
theorem CC.most_ (h : CC w0 w cb pt b pw Sw most L) : Calls Try.prog 61 #[.pointer (some ⟨cb, 0, none⟩)] w fun e w' => e = .returned (.int .i64 (most : Nat)) ∧ w = w' := by
  have c0 := h.c0
  clear h
  go_enter Try.func61, Try.ntmps61
  go_wp2
  go_ret
  exact ⟨rfl, rfl⟩
end
theorem cnew_bad (n : Int) (hn : n < 1 ∨ 4096 < n) (w : World) : Calls Try.prog 40 #[.int .i64 n] w fun e w' => e = .returned (.tuple #[.pointer none, .int .i64 1]) ∧ w = w' := by
  have HN := Lib.hid hn
  clear hn
  go_enter Try.func40, Try.ntmps40
  go_wp2_with fail
  (with_reducible refine (inew_bad n HN.out _).mono ?_); rintro e w2 ⟨rfl, rfl⟩
  go_wp2
  go_ret2
  exact ⟨rfl, rfl⟩
theorem cnew_any (n : Nat) (hn : 1 ≤ n) (hN : n ≤ 4096) (w : World) : Calls Try.prog 40 #[.int .i64 (n : Int)] w fun e w' => ∃ cb pt b pw Sw, e = .returned (.tuple #[.pointer (some ⟨cb, 0, none⟩), .int .i64 0]) ∧ CC w w' cb pt b pw Sw n [] := by
  have HN := Lib.hid hn
  have HN2 := Lib.hid hN
  clear hn hN
  go_enter Try.func40, Try.ntmps40
  go_wp2_with fail
  (with_reducible refine (itnew (φ := fun x => x) n HN.out HN2.out _).mono ?_); rintro e w2 ⟨pt, b, rfl, h1, h2, h3, h4⟩
  have H1 := Aside0.mk h1
  have H4 := Aside0.mk h4
  have H2 := Lib.hid h2
  have H3 := Lib.hid h3
  clear h1 h2 h3 h4
  go_wp2_with fail
  (with_reducible refine (Wh.wnew_any _).mono ?_); rintro e w3 ⟨pw, Sw, rfl, k1, k2, k3, k4⟩
  have K1 := Aside0.mk k1
  have K3 := Lib.hid k3
  have K4 := Aside0.mk k4
  clear k1 k2 k3 k4
  go_wp2
  go_ret2
  have hz := H4.out.size
  have hz2 := K4.out.size
  have fa : Frm (fun _ => False) w3 (w3.alloc (.cells #[.int .i64 n, .pointer (some ⟨pt, 0, none⟩), .pointer (some ⟨pw, 0, none⟩)] 119)) := (Frm.refl _ w3).alloc _
  exact ⟨w3.heap.size, pt, b, pw, Sw, rfl, ⟨blk_new _ _, itl_frm (itl_frm H1.out K4.out (fun e => e) (fun e => e)) fa (fun e => e) (fun e => e), K1.out.frm fa (fun _ _ e => e), .inr (show w.heap.size ≤ _ by omega), .inr H2.out, .inr H3.out, fun x hx => .inr (show w.heap.size ≤ _ by have := K3.out x hx; omega), (H4.out.trans K4.out).trans fa⟩⟩
theorem hold_any (x : Int) (w : World) : Calls Try.prog 75 #[.int .i64 x] w fun e w' => e = .returned (.int .i64 (min (max x 0) 4611686018427387904)) ∧ w = w' := by
  go_enter Try.func75, Try.ntmps75
  go_wp2
  go_ret
  exact ⟨rfl, rfl⟩
end Go.Proofs.Ytjgoddieamphpaa.Ca
