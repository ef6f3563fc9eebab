/- A part of the proof. -/
import Derived.Test.YtjgoddieamphpaaOXJ
namespace Go.Proofs.Ytjgoddieamphpaa.Wh
open Go.RowKit Go.Sort Go.Proofs.YtjgoddieamphpaaW.PrintWords Go.Proofs.YtjgoddieamphpaaW.PrintLast Heap Go.Proofs.Ytjgoddieamphpaa.Obj Go.Proofs.Ytjgoddieamphpaa.PWheelActs
set_option maxRecDepth 100000
set_option linter.unusedVariables false
/-! Many small steps, and one great one. -/
theorem Dues.longer {now : Int} {m : Nat} {K K1 : List KV} {o : List ByteArray} (h : Dues now m K o K1) : o.length < m → ∀ m', o.length < m' → Dues now m' K o K1 := by
  induction h with
  | full => intro h; cases h
  | none m => intro _ m' h; obtain ⟨q, rfl⟩ : ∃ q, m' = q + 1 := ⟨m' - 1, by simp at h; omega⟩; exact .none q
  | later m K x h1 h2 => intro _ m' h; obtain ⟨q, rfl⟩ : ∃ q, m' = q + 1 := ⟨m' - 1, by simp at h; omega⟩; exact .later q K x h1 h2
  | one m K K1 K2 x out h1 h2 h3 h4 ih =>
    intro h m' h'
    rw [List.length_cons] at h h'
    obtain ⟨q, rfl⟩ : ∃ q, m' = q + 1 := ⟨m' - 1, by omega⟩
    exact .one q K K1 K2 x out h1 h2 h3 (ih (by omega) q (by omega))
/-- Nothing is due. -/
def Still (now : Int) (K : List KV) : Prop := Dues now 1 K [] K
theorem Dues.still {now : Int} {m : Nat} {K K1 : List KV} {o : List ByteArray} (h : Dues now m K o K1) : o.length < m → Still now K1 := by
  induction h with
  | full => intro h; cases h
  | none m => intro _; exact .none 0
  | later m K x h1 h2 => intro _; exact .later 0 K x h1 h2
  | one m K K1 K2 x out h1 h2 h3 h4 ih => intro h; rw [List.length_cons] at h; exact ih (by omega)
theorem Dues.le {now : Int} {m : Nat} {K K1 : List KV} {o : List ByteArray} (h : Dues now m K o K1) : o.length ≤ m := by
  induction h with
  | full => simp
  | none => simp
  | later => simp
  | one m K K1 K2 x out h1 h2 h3 h4 ih => simp; omega
theorem Still.dues {now : Int} {K K1 : List KV} (h : Still now K) {m : Nat} {o : List ByteArray} (k : Dues now m K o K1) : o = [] ∧ K.Perm K1 := by
  cases m with
  | zero => cases k; exact ⟨rfl, List.Perm.refl _⟩
  | succ m =>
    have h2 : Dues now (m + 1) K [] K := Dues.longer h (by simp) (m + 1) (by simp)
    obtain ⟨e, hp⟩ := h2.uniq k (List.Perm.refl _)
    exact ⟨e.symm, hp⟩
/-- One behind the other. -/
theorem Dues.app {now : Int} {m : Nat} {K K1 : List KV} {o : List ByteArray} (h : Dues now m K o K1) : ∀ {m' : Nat} {K2 : List KV} {o' : List ByteArray}, Dues now m' K1 o' K2 → ∃ q K3, o.length + m' ≤ q ∧ Dues now q K (o ++ o') K3 ∧ K2.Perm K3 := by
  induction h with
  | full K => intro m' K2 o' k; exact ⟨m', K2, by simp, k, List.Perm.refl _⟩
  | none m =>
    intro m' K2 o' k
    exact ⟨m', K2, by simp, k, List.Perm.refl _⟩
  | later m K x h1 h2 => intro m' K2 o' k; exact ⟨m', K2, by simp, k, List.Perm.refl _⟩
  | one m K K1 K2 x out h1 h2 h3 h4 ih =>
    intro m' K3 o' k
    obtain ⟨q, K4, h5, h6, h7⟩ := ih k
    exact ⟨q + 1, K4, by simp; omega, .one q K K1 K4 x (out ++ o') h1 h2 h3 h6, h7⟩
theorem Dues.sub {now : Int} {m : Nat} {K K1 : List KV} {o : List ByteArray} (h : Dues now m K o K1) : ∀ c ∈ K1, c ∈ K := by
  induction h with
  | full => exact fun c h => h
  | none => exact fun c h => h
  | later => exact fun c h => h
  | one m K K1 K2 x out h1 h2 h3 h4 ih => exact fun c hc => (List.mem_filter.1 (h3.mem_iff.1 (ih c hc))).1
theorem Dues.gone {now : Int} {m : Nat} {K K1 : List KV} {o : List ByteArray} (h : Dues now m K o K1) : ∀ k ∈ o, ∀ c ∈ K1, c.1 ≠ k := by
  induction h with
  | full => intro k hk; cases hk
  | none => intro k hk; cases hk
  | later => intro k hk; cases hk
  | one m K K1 K2 x out h1 h2 h3 h4 ih =>
    intro k hk c hc
    rcases List.mem_cons.1 hk with rfl | hk
    · have := (List.mem_filter.1 (h3.mem_iff.1 (h4.sub c hc))).2
      simpa using this
    · exact ih k hk c hc
theorem Still.next {now : Int} {K : List KV} (h : Still now K) {a : ByteArray} {t : Int} {b : Bool} (k : nextK K a t b) : b = false ∨ now < t := by
  rcases k with ⟨_, _, _, rfl⟩ | ⟨hf, _⟩
  · exact .inl rfl
  · unfold Still at h
    cases h with
    | none => exact absurd hf.1 (by simp)
    | later =>
      rename_i x h1 h2
      first
        | (have e := IsFirst.uniq (L := K) hf (by assumption) (List.Perm.refl _); subst e; exact .inr (by assumption))
        | exact .inr (by assumption)
theorem rowT_frm {w w1 : World} {base : Nat} {v : Value} {o : List ByteArray} {F : Nat → Prop} (h : Kd.R Kd.string 9 w base (fun _ => True) v o) (k : Frm F w w1) (hF : ∀ b cs t, F b → w.heap[b]? = some (.cells cs t (0, 0)) → t ≠ 9) : Kd.R Kd.string 9 w1 base (fun _ => True) v o := by
  refine Kd.R_mono (Kd.R_step (Kd.R_bound h) ?_) (fun _ _ => trivial)
  rintro b ⟨_, _, _, q, hq, cells, hc⟩ hlt
  refine k.block b hlt fun hf => ?_
  have : q = 9 := by simpa [Kd.string, Kd.scalar] using hq
  subst this
  exact hF b _ _ hf hc rfl
theorem WK.rowK {w w1 : World} {S : Nat → Prop} {p : Nat} {K : List KV} (h : WK w S p K) {base : Nat} {v : Value} {o : List ByteArray} (hr : Kd.R Kd.string 9 w base (fun _ => True) v o) (f : Frm S w w1) : Kd.R Kd.string 9 w1 base (fun _ => True) v o :=
  rowT_frm hr f (fun b cs t hb hc => by rcases h.type b cs t hb hc with rfl | rfl | rfl <;> decide)
/-- Two wheels. -/
structure W2 (w0 w : World) (S1 S2 : Nat → Prop) (p1 p2 : Nat) (K1 K2 : List KV) : Prop where
  a : WK w S1 p1 K1
  b : WK w S2 p2 K2
  d : ∀ x, S1 x → ¬ S2 x
  la : ∀ x, S1 x → w0.heap.size ≤ x
  lb : ∀ x, S2 x → w0.heap.size ≤ x
  f : Frm (fun _ => False) w0 w
section
variable {w0 w w1 : World} {S1 S2 S' : Nat → Prop} {p1 p2 : Nat} {K1 K2 K' : List KV}
theorem W2.movedA (h : W2 w0 w S1 S2 p1 p2 K1 K2) (k : WK w1 S' p1 K') (f : Frm S1 w w1) (hs : ∀ b, S' b → S1 b ∨ w.heap.size ≤ b) : W2 w0 w1 S' S2 p1 p2 K' K2 :=
  ⟨k, h.b.frm f (fun x h2 h1 => h.d x h1 h2), fun x h1 h2 => by rcases hs x h1 with e | e; exact h.d x e h2; have := h.b.lt x h2; omega, up_lo h.la h.f.size hs, h.lb, h.f.then f (fun b hb e => by have := h.la b e; omega)⟩
theorem W2.movedB (h : W2 w0 w S1 S2 p1 p2 K1 K2) (k : WK w1 S' p2 K') (f : Frm S2 w w1) (hs : ∀ b, S' b → S2 b ∨ w.heap.size ≤ b) : W2 w0 w1 S1 S' p1 p2 K1 K' :=
  ⟨h.a.frm f (fun x h1 h2 => h.d x h1 h2), k, fun x h1 h2 => by rcases hs x h2 with e | e; exact h.d x h1 e; have := h.a.lt x h1; omega, h.la, up_lo h.lb h.f.size hs, h.f.then f (fun b hb e => by have := h.lb b e; omega)⟩
theorem W2.movedN (h : W2 w0 w S1 S2 p1 p2 K1 K2) (f : Frm (fun _ => False) w w1) : W2 w0 w1 S1 S2 p1 p2 K1 K2 :=
  ⟨h.a.frm f (fun _ _ e => e), h.b.frm f (fun _ _ e => e), h.d, h.la, h.lb, h.f.trans f⟩
theorem W2.movedG (h : W2 w0 w S1 S2 p1 p2 K1 K2) {v : Value} (g : w.grownBy w1 v.ownBlock) (hv : ∀ b, some b = v.ownBlock → (∃ cs, w.heap[b]? = some (.cells cs 9 (0, 0))) ∧ w0.heap.size ≤ b) : W2 w0 w1 S1 S2 p1 p2 K1 K2 := by
  have hf : Frm (fun j => some j = v.ownBlock) w w1 := ⟨g.os, g.tape, g.output, g.size, fun j hj hn => g.block j hj hn⟩
  refine ⟨h.a.frm hf (fun x h1 e => ?_), h.b.frm hf (fun x h1 e => ?_), h.d, h.la, h.lb, h.f.then hf (fun b hb e => by have := (hv b e).2; omega)⟩
  · obtain ⟨⟨cs, hc⟩, _⟩ := hv x e
    rcases h.a.type x _ _ h1 hc with e | e | e <;> cases e
  · obtain ⟨⟨cs, hc⟩, _⟩ := hv x e
    rcases h.b.type x _ _ h1 hc with e | e | e <;> cases e
theorem W2.drew (h : W2 w0 w S1 S2 p1 p2 K1 K2) : W2 w0 w.drew S1 S2 p1 p2 K1 K2 := h.movedN ((Frm.refl _ w).drew)
theorem W2.drewN (h : W2 w0 w S1 S2 p1 p2 K1 K2) (n : Nat) : W2 w0 (w.drewN n) S1 S2 p1 p2 K1 K2 := h.movedN ((Frm.refl _ w).drewN n)
theorem W2.putA (h : W2 w0 w S1 S2 p1 p2 K1 K2) (k : ByteArray) (hs : k.size ≤ 100) (t : Int) (hl : K1.length < 9999) : Calls Try.prog 27 #[.pointer (some ⟨p1, 0, none⟩), .string k, .int .i64 t] w fun e w' => e = .returned (.tuple #[]) ∧ ∃ S', W2 w0 w' S' S2 p1 p2 (dropK K1 k ++ [(k, t)]) K2 := by
  refine (h.a.put k (by omega) t hl).mono ?_
  rintro e w' ⟨a, S', h1, h2, h3⟩
  exact ⟨a, S', h.movedA h1 h2 h3⟩
theorem W2.putB (h : W2 w0 w S1 S2 p1 p2 K1 K2) (k : ByteArray) (hs : k.size ≤ 100) (t : Int) (hl : K2.length < 9999) : Calls Try.prog 27 #[.pointer (some ⟨p2, 0, none⟩), .string k, .int .i64 t] w fun e w' => e = .returned (.tuple #[]) ∧ ∃ S', W2 w0 w' S1 S' p1 p2 K1 (dropK K2 k ++ [(k, t)]) := by
  refine (h.b.put k (by omega) t hl).mono ?_
  rintro e w' ⟨a, S', h1, h2, h3⟩
  exact ⟨a, S', h.movedB h1 h2 h3⟩
theorem W2.dueA (h : W2 w0 w S1 S2 p1 p2 K1 K2) (now most : Int) : Calls Try.prog 32 #[.pointer (some ⟨p1, 0, none⟩), .int .i64 now, .int .i64 most] w fun e w' => ∃ A c o K' S', e = .returned (.slice A o.length c) ∧ Kd.R Kd.string 9 w' w.heap.size (fun _ => True) (.slice A o.length c) o ∧ W2 w0 w' S' S2 p1 p2 K' K2 ∧ Dues now most.toNat K1 o K' := by
  refine (h.a.due now most).mono ?_
  rintro e w' ⟨A, c, o, K', S', a, h1, h2, h3, h4, h5⟩
  exact ⟨A, c, o, K', S', a, h1, h.movedA h2 h3 h4, h5⟩
/-- The other wheel's due; two rows of texts stay. -/
theorem W2.dueB (h : W2 w0 w S1 S2 p1 p2 K1 K2) (now most : Int) {v1 v2 : Value} {o1 o2 : List ByteArray} {b1 b2 : Nat} (hr1 : Kd.R Kd.string 9 w b1 (fun _ => True) v1 o1) (hr2 : Kd.R Kd.string 9 w b2 (fun _ => True) v2 o2) : Calls Try.prog 32 #[.pointer (some ⟨p2, 0, none⟩), .int .i64 now, .int .i64 most] w fun e w' => ∃ A c o K' S', e = .returned (.slice A o.length c) ∧ Kd.R Kd.string 9 w' w.heap.size (fun _ => True) (.slice A o.length c) o ∧ W2 w0 w' S1 S' p1 p2 K1 K' ∧ Dues now most.toNat K2 o K' ∧ Kd.R Kd.string 9 w' b1 (fun _ => True) v1 o1 ∧ Kd.R Kd.string 9 w' b2 (fun _ => True) v2 o2 ∧ w.heap.size ≤ w'.heap.size := by
  refine (h.b.due now most).mono ?_
  rintro e w' ⟨A, c, o, K', S', a, h1, h2, h3, h4, h5⟩
  exact ⟨A, c, o, K', S', a, h1, h.movedB h2 h3 h4, h5, h.b.rowK hr1 h3, h.b.rowK hr2 h3, h3.size⟩
end
end Go.Proofs.Ytjgoddieamphpaa.Wh
