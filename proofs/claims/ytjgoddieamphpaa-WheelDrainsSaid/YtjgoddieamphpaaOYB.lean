/- A part of the proof. -/
import Derived.Test.YtjgoddieamphpaaOYA
import Derived.Deep.RegionWith
namespace Go.Proofs.Ytjgoddieamphpaa.Wh
open Go.RowKit Go.Sort Go.Proofs.YtjgoddieamphpaaW.PrintWords Go.Proofs.YtjgoddieamphpaaW.PrintLast Heap Go.Proofs.Ytjgoddieamphpaa.Obj Go.Proofs.Ytjgoddieamphpaa.PWheelActs
set_option maxRecDepth 100000
set_option linter.unusedVariables false
theorem Still.perm {now : Int} {K L : List KV} (h : Still now K) (hp : K.Perm L) : Still now L := by
  obtain ⟨L1, h1, h2⟩ := Dues.perm h hp
  have h3 : Still now L1 := h1.still (by simp)
  have e : L.Perm L1 := (hp.symm.trans h2)
  obtain ⟨_, h5⟩ : ([] : List ByteArray) = [] ∧ K.Perm L1 := ⟨rfl, h2⟩
  unfold Still at h h3 ⊢
  cases h1 with
  | none => exact .none 0
  | later => exact .later 0 _ _ (by assumption) (by assumption)
/-- What has come of i steps. -/
structure Prog (now : Int) (K : List KV) (o : List ByteArray) (K2 : List KV) (i : Nat) : Prop where
  d : ∃ q K3, Dues now q K o K3 ∧ K2.Perm K3
  p : i ≤ o.length ∨ Still now K2
theorem Prog.start (now : Int) (K : List KV) : Prog now K [] K 0 := ⟨⟨0, K, .full K, List.Perm.refl _⟩, .inl (Nat.le_refl _)⟩
theorem Prog.step {now : Int} {K K2 K2' : List KV} {o o' : List ByteArray} {i st : Nat} (h : Prog now K o K2 i) (hs : 1 ≤ st) (k : Dues now st K2 o' K2') : Prog now K (o ++ o') K2' (i + 1) := by
  obtain ⟨q, K3, h1, h2⟩ := h.d
  obtain ⟨L1, k1, k2⟩ := k.perm h2
  obtain ⟨q', K4, _, h4, h5⟩ := h1.app k1
  refine ⟨⟨q', K4, h4, k2.trans h5⟩, ?_⟩
  rcases h.p with e | e
  · by_cases hlt : o'.length < st
    · exact .inr (k.still hlt)
    · refine .inl ?_
      rw [List.length_append]; omega
  · obtain ⟨rfl, hp⟩ := e.dues k
    exact .inr (e.perm hp)
theorem Prog.end_ {now : Int} {K K2 KA : List KV} {o o1 : List ByteArray} {n : Nat} (h : Prog now K o K2 (n + 1)) (hn : K.length ≤ n) (k : Dues now (n + 1) K o1 KA) : o1 = o ∧ KA.Perm K2 ∧ Still now K2 ∧ ∀ x ∈ o, hasK K2 x = false := by
  obtain ⟨q, K3, h1, h2⟩ := h.d
  have hl := h1.len
  have hst : Still now K2 := by
    rcases h.p with e | e
    · omega
    · exact e
  obtain ⟨q', K4, h3, h4, h5⟩ := h1.app (hst.perm h2)
  rw [List.append_nil] at h4
  have h6 := h4.longer (by omega) (n + 1) (by omega)
  obtain ⟨e, hp⟩ := k.uniq h6 (List.Perm.refl _)
  refine ⟨e, hp.trans (h2.trans h5).symm, hst, fun x hx => ?_⟩
  refine decide_eq_false ?_
  rintro ⟨c, hc, e2⟩
  exact h1.gone x hx c (h2.mem_iff.1 hc) e2
theorem Prog.olen {now : Int} {K K2 : List KV} {o : List ByteArray} {i : Nat} (h : Prog now K o K2 i) : o.length + K2.length ≤ K.length := by
  obtain ⟨q, K3, h1, h2⟩ := h.d
  have := h1.len
  have := h2.length_eq
  omega
section
variable {w0 w w1 : World} {S1 S2 S' : Nat → Prop} {p1 p2 : Nat} {K1 K2 K' : List KV}
theorem W2.nextB (h : W2 w0 w S1 S2 p1 p2 K1 K2) {a : ByteArray} {t : Int} {b : Bool} (hk : nextK K2 a t b) : Calls Try.prog 34 #[.pointer (some ⟨p2, 0, none⟩)] w fun e w' => e = .returned (.tuple #[.string a, .int .i64 t, .bool b]) ∧ ∃ n, w' = w.drewN n := by
  rcases hk with ⟨h0, rfl, rfl, rfl⟩ | ⟨hf, rfl⟩
  · exact h.b.next_none h0
  · exact h.b.next_some _ hf
theorem W2.atB (h : W2 w0 w S1 S2 p1 p2 K1 K2) (k : ByteArray) (hs : k.size ≤ 1000) (hk : hasK K2 k = false) : Calls Try.prog 36 #[.pointer (some ⟨p2, 0, none⟩), .string k] w fun e w' => ∃ t, e = .returned (.tuple #[.int .i64 t, .bool false]) ∧ w = w' := by
  refine (h.b.at_ k hs).mono ?_
  rintro e w' ⟨a, c⟩
  exact ⟨_, by rw [a, hk], c⟩
theorem W2.lenA (h : W2 w0 w S1 S2 p1 p2 K1 K2) (hp : K1.Perm K2) : Calls Try.prog 38 #[.pointer (some ⟨p1, 0, none⟩)] w fun e w' => e = .returned (.int .i64 (K2.length : Nat)) ∧ w = w' := by
  rw [← hp.length_eq]; exact h.a.len
theorem W2.lenB (h : W2 w0 w S1 S2 p1 p2 K1 K2) : Calls Try.prog 38 #[.pointer (some ⟨p2, 0, none⟩)] w fun e w' => e = .returned (.int .i64 (K2.length : Nat)) ∧ w = w' := h.b.len
end
theorem w2_start {w w1 w2 : World} {S1 S2 : Nat → Prop} {p1 p2 : Nat} (h : WB w w1 S1 p1 []) (k : WK w2 S2 p2 []) (hs : ∀ b, S2 b → w1.heap.size ≤ b) (f : Frm (fun _ => False) w1 w2) : W2 w w2 S1 S2 p1 p2 [] [] :=
  ⟨h.k.frm f (fun _ _ e => e), k, fun x h1 h2 => by have := h.k.lt x h1; have := hs x h2; omega, h.lo, fun x hx => by have := hs x hx; have := h.f.size; omega, h.f.trans f⟩
theorem strs_at {w : World} {base : Nat} {A : Option Addr} {n c : Nat} {o : List ByteArray} (h : Kd.R Kd.string 9 w base (fun _ => True) (.slice A n c) o) (i : Nat) (hi : i < o.length) : ∃ ad k, A = some ad ∧ k ∈ o ∧ w.cell? (ad.add i) = some (.string k) := by
  obtain ⟨ad, cs, e, _, hK, hc0⟩ := Kd.C_get (Kd.R_reads' h).2.2 (⟨#[]⟩ : ByteArray) (i : Int) (by omega) (by omega)
  have hK' : cs = [.string (o.getD (i : Int).toNat ⟨#[]⟩)] := hK
  subst hK'
  refine ⟨ad, o.getD (i : Int).toNat ⟨#[]⟩, e, ?_, ?_⟩
  · rw [Int.toNat_natCast, List.getD_eq_getElem?_getD, List.getElem?_eq_getElem hi]; exact List.getElem_mem hi
  · have := hc0 0 _ rfl
    rw [Int.toNat_natCast] at this
    have e1 : i * Kd.string.sz + 0 = i := by show i * 1 + 0 = i; omega
    rw [e1] at this
    rw [Int.toNat_natCast]
    exact this
end Go.Proofs.Ytjgoddieamphpaa.Wh
