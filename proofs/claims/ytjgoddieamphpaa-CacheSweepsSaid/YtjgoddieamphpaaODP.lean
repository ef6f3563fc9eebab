/- A cache: part of the proof. -/
import Derived.Test.YtjgoddieamphpaaODH
import Derived.Deep.RegionHeld3
import Derived.Deep.DrawnRows
import Derived.Deep.CutRange
namespace Go.Proofs.Ytjgoddieamphpaa.Ca
open Go.RowKit Go.Sort Go.Proofs.YtjgoddieamphpaaW.PrintWords Go.Proofs.YtjgoddieamphpaaW.PrintLast Probe Go.Proofs.Ytjgoddieamphpaa.Obj Go.Proofs.Ytjgoddieamphpaa.PProbeActs
set_option maxRecDepth 100000
set_option linter.unusedVariables false
/-! What a cache owns, and that it may turn alone. -/
def own (cb pt b : Nat) (S : Nat → Prop) (x : Nat) : Prop := x = cb ∨ x = pt ∨ x = b ∨ S x
section
variable {w0 : Bs} {w w1 : World} {cb pt b pw most : Nat} {Sw S' : Nat → Prop} {L L' : List S98}
theorem CC.perm (h : CC w0 w cb pt b pw Sw most L) (hp : L.Perm L') : CC w0 w cb pt b pw Sw most L' := ⟨h.hd, tli_perm h.t (hp.map _), h.k.perm (hp.map _), h.lc, h.lt, h.lb, h.ls, h.f⟩
theorem CC.here (h : CC w0 w cb pt b pw Sw most L) : CC ⟨w, own cb pt b Sw⟩ w cb pt b pw Sw most L :=
  ⟨h.hd, h.t, h.k, .inl (.inl rfl), .inl (.inr (.inl rfl)), .inl (.inr (.inr (.inl rfl))), fun x hx => .inl (.inr (.inr (.inr hx))), Frm.refl _ _⟩
theorem CC.own_lo (h : CC w0 w cb pt b pw Sw most L) (x : Nat) (hx : own cb pt b Sw x) : w0.lo x := by
  rcases hx with rfl | rfl | rfl | hx
  · exact h.lc
  · exact h.lt
  · exact h.lb
  · exact h.ls x hx
theorem CC.back (h : CC w0 w cb pt b pw Sw most L) (h' : CC ⟨w, own cb pt b Sw⟩ w1 cb pt b pw S' most L') : CC w0 w1 cb pt b pw S' most L' :=
  ⟨h'.hd, h'.t, h'.k, h.lc, h.lt, h.lb, fun x hx => (h'.ls x hx).elim (h.own_lo x) (fun e => .inr (Nat.le_trans h.f.size e)), h.f.then h'.f (fun i hi e => (h.own_lo i e).nn hi)⟩
theorem CC.own_type (h : CC w0 w cb pt b pw Sw most L) (x : Nat) (cs : Array Value) (t : TypeId) (hx : own cb pt b Sw x) (hc : w.heap[x]? = some (.cells cs t (0, 0))) : t ≠ 83 ∧ t ≠ 98 ∧ t ≠ 85 ∧ t ≠ 9 ∧ t ≠ 126 := by
  obtain ⟨⟨c1, b1⟩, ⟨c2, b2⟩⟩ := itl_blk h.t
  rcases hx with rfl | rfl | rfl | hx
  · rw [h.hd] at hc; injection hc with hc; injection hc with _ hc _; subst hc; decide
  · rw [b1] at hc; injection hc with hc; injection hc with _ hc _; subst hc; decide
  · rw [b2] at hc; injection hc with hc; injection hc with _ hc _; subst hc; decide
  · rcases h.k.type _ _ _ hx hc with rfl | rfl | rfl <;> decide
theorem CC.len (h : CC w0 w cb pt b pw Sw most L) : L.length ≤ most ∧ most ≤ 4096 := ⟨itl_len h.t, tbig h.t⟩
end
/-- A block of the loop's own. -/
def XB (w : World) (xb : Nat) (X : Array Value) : Prop := w.heap[xb]? = some (.cells X 85 (0, 0))
theorem ex_added (L : List S98) (most : Nat) (k : ByteArray) (hits u now : Int) : ∃ n code L', Added L most k hits u now n code L' := by
  by_cases hb : hits < 1 ∨ u ≤ now
  · exact ⟨0, 1, L, .inl ⟨hb, rfl, rfl, rfl⟩⟩
  have h1 : 1 ≤ hits := by omega
  have h2 : now < u := by omega
  cases hl : liveC L k now with
  | true => exact ⟨_, 0, _, .inr ⟨h1, h2, .inl ⟨hl, rfl, rfl, rfl⟩⟩⟩
  | false =>
    by_cases hf : most ≤ liveN L now
    · exact ⟨0, 6, L, .inr ⟨h1, h2, .inr ⟨hl, .inl ⟨hf, rfl, rfl, rfl⟩⟩⟩⟩
    · exact ⟨_, 0, _, .inr ⟨h1, h2, .inr ⟨hl, .inr ⟨by omega, rfl, rfl, rfl⟩⟩⟩⟩
theorem XB.movedN {w w1 : World} {xb : Nat} {X : Array Value} (h : XB w xb X) (f : Frm (fun _ => False) w w1) : XB w1 xb X := f.blk h (fun e => e)
theorem XB.drewN {w : World} {xb : Nat} {X : Array Value} (h : XB w xb X) (n : Nat) : XB (w.drewN n) xb X := h
theorem rowA {w w1 : World} {base : Nat} {v : Value} {l : List S126} (h : Kd.R k126 126 w base (fun _ => True) v l) (k : Frm (fun _ => False) w w1) : Kd.R k126 126 w1 base (fun _ => True) v l := by
  refine Kd.R_mono (Kd.R_step (Kd.R_bound h) ?_) (fun _ _ => trivial)
  rintro b ⟨_, _, _, q, hq, cells, hc⟩ hlt
  exact k.block b hlt fun hf => hf
theorem CC.from_ {a b w : World} {cb pt bb pw most : Nat} {Sw : Nat → Prop} {L : List S98} (h : CC (a : Bs) w cb pt bb pw Sw most L) (f : Frm (fun _ => False) b a) : CC (b : Bs) w cb pt bb pw Sw most L := by
  have up : ∀ x, (a : Bs).lo x → (b : Bs).lo x := fun x hx => hx.elim (fun e => e.elim) (fun e => .inr (Nat.le_trans f.size e))
  exact ⟨h.hd, h.t, h.k, up _ h.lc, up _ h.lt, up _ h.lb, fun x hx => up x (h.ls x hx), f.trans h.f⟩
end Go.Proofs.Ytjgoddieamphpaa.Ca
