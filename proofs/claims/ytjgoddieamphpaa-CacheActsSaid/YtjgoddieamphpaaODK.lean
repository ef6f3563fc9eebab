/- A cache: part of the proof. -/
import Derived.Test.YtjgoddieamphpaaODI
import Derived.Test.YtjgoddieamphpaaODJ
namespace Go.Proofs.Ytjgoddieamphpaa.Ca
open Go.RowKit Go.Sort Go.Proofs.YtjgoddieamphpaaW.PrintWords Go.Proofs.YtjgoddieamphpaaW.PrintLast Probe Go.Proofs.Ytjgoddieamphpaa.Obj Go.Proofs.Ytjgoddieamphpaa.PProbeActs
set_option maxRecDepth 100000
set_option linter.unusedVariables false
theorem wo_no {L : List S98} {k : ByteArray} (h : ∀ c ∈ L, c.f0 ≠ k) : wo L [k] = L := List.filter_eq_self.2 fun c hc => by rw [nin_one]; exact decide_eq_true (h c hc)
theorem set_wo {L : List S98} (hn : (L.map (·.f0)).Nodup) {i : Nat} {k : ByteArray} (hi : idx L k = some i) (n u : Int) : (L.set i (⟨(L.getD i z98).f0, n, u⟩ : S98)).Perm (wo L [k] ++ [⟨k, n, u⟩]) := by
  obtain ⟨hl, hk⟩ := idx_some hi
  have h1 := set_perm L i hl ⟨(L.getD i z98).f0, n, u⟩
  have h2 := dropAt_wo hn i hl
  rw [hk] at h1 h2 ⊢
  exact h1.trans ((h2.cons _).trans (List.perm_append_comm (l₁ := [(⟨k, n, u⟩ : S98)])))
section
variable {w : World} {m most : Nat} {L : List S98} {v : Value}
theorem radd_bad (h : RK w m most L v) (k : ByteArray) (hits u now : Int) (hb : hits < 1 ∨ u ≤ now) : Calls Try.prog 53 #[.pointer (some ⟨m, 0, none⟩), .string k, .int .i64 hits, .int .i64 u, .int .i64 now] w fun e w' => e = .returned (.tuple #[.int .i64 0, .int .i64 1]) ∧ w = w' := by
  clear h
  by_cases h1 : hits < 1
  · have d1 : decide (hits < 1) = true := decide_eq_true h1
    clear hb h1
    go_enter Try.func53, Try.ntmps53
    go_wp2
    go_ret2
    exact ⟨rfl, rfl⟩
  have d1 : decide (hits < 1) = false := decide_eq_false h1
  have d2 : decide (u ≤ now) = true := decide_eq_true (by omega)
  clear hb h1
  go_enter Try.func53, Try.ntmps53
  go_wp2
  go_ret2
  exact ⟨rfl, rfl⟩
/-- The document's Add, whatever is there. -/
theorem rkadd (h : RK w m most L v) (hn : (L.map (·.f0)).Nodup) (hlm : L.length ≤ most) (hm5 : most ≤ 5000) (k : ByteArray) (hits u now : Int) : Calls Try.prog 53 #[.pointer (some ⟨m, 0, none⟩), .string k, .int .i64 hits, .int .i64 u, .int .i64 now] w fun e w' => ∃ n code v' L1 L', e = .returned (.tuple #[.int .i64 n, .int .i64 code]) ∧ RK w' m most L1 v' ∧ L1.Perm L' ∧ Added L most k hits u now n code L' ∧ Frm (fun b => b = m) w w' := by
  by_cases hb : hits < 1 ∨ u ≤ now
  · refine (radd_bad h k hits u now hb).mono ?_
    rintro e w' ⟨a, rfl⟩
    exact ⟨0, 1, v, L, L, a, h, List.Perm.refl _, .inl ⟨hb, rfl, rfl, rfl⟩, Frm.refl _ _⟩
  have h1 : 1 ≤ hits := by omega
  have h2 : now < u := by omega
  have hlv := live_idx hn k now
  have hpk := peek_idx hn k now
  have hhb : hasB L k = (idx L k).isSome := rfl
  cases hi : idx L k with
  | some i =>
    rw [hi] at hlv hpk hhb
    have hlv : liveC L k now = decide (now < (L.getD i z98).f2) := hlv
    have hpk : peekC L k now = if now < (L.getD i z98).f2 then (L.getD i z98).f1 else 0 := hpk
    have hhb : hasB L k = true := hhb
    by_cases hl : now < (L.getD i z98).f2
    · refine (radd_live h k hits u now h1 h2 i hi hl).mono ?_
      rintro e w' ⟨a, ⟨v', hv⟩, f⟩
      rw [decide_eq_true hl] at hlv
      rw [if_pos hl] at hpk
      exact ⟨_, 0, v', _, _, a, hv, set_wo hn hi _ u, .inr ⟨h1, h2, .inl ⟨hlv, by rw [hpk], rfl, rfl⟩⟩, f⟩
    · rw [decide_eq_false hl] at hlv
      by_cases hf : most ≤ liveN L now
      · refine (radd_full1 h k hits u now h1 h2 i hi (by omega) hf).mono ?_
        rintro e w' ⟨a, ⟨v', hv⟩, f⟩
        exact ⟨0, 6, v', _, _, a, hv, List.Perm.refl _, .inr ⟨h1, h2, .inr ⟨hlv, .inl ⟨hf, rfl, rfl, rfl⟩⟩⟩, f⟩
      · refine (radd_swap h k hits u now h1 h2 i hi (by omega) (by omega) hlm hm5).mono ?_
        rintro e w' ⟨a, ⟨v', hv⟩, f⟩
        obtain ⟨hil, hik⟩ := idx_some hi
        have hd := dropAt_wo hn i hil
        rw [hik] at hd
        exact ⟨_, 0, v', _, _, a, hv, hd.append_right _, .inr ⟨h1, h2, .inr ⟨hlv, .inr ⟨by omega, rfl, rfl, by rw [if_neg (by rw [hhb]; rintro ⟨x, _⟩; cases x)]⟩⟩⟩, f⟩
  | none =>
    rw [hi] at hlv hpk hhb
    have hlv : liveC L k now = false := hlv
    have hhb : hasB L k = false := hhb
    have hno := idx_none hi
    by_cases hf : most ≤ liveN L now
    · refine (radd_full0 h k hits u now h1 h2 hi hf).mono ?_
      rintro e w' ⟨a, ⟨v', hv⟩, f⟩
      exact ⟨0, 6, v', _, _, a, hv, List.Perm.refl _, .inr ⟨h1, h2, .inr ⟨hlv, .inl ⟨hf, rfl, rfl, rfl⟩⟩⟩, f⟩
    · by_cases hm : most ≤ L.length
      · refine (radd_only h k hits u now h1 h2 hi (by omega) hm hm5).mono ?_
        rintro e w' ⟨a, ⟨v', hv⟩, f⟩
        exact ⟨_, 0, v', _, _, a, hv, List.Perm.refl _, .inr ⟨h1, h2, .inr ⟨hlv, .inr ⟨by omega, rfl, rfl, by rw [if_pos ⟨hhb, hm⟩]; congr 1; exact (wo_no fun c hc => hno c (List.mem_filter.1 hc).1).symm⟩⟩⟩, f⟩
      · refine (radd_new h k hits u now h1 h2 hi (by omega) (by omega) hm5).mono ?_
        rintro e w' ⟨a, ⟨v', hv⟩, f⟩
        exact ⟨_, 0, v', _, _, a, hv, List.Perm.refl _, .inr ⟨h1, h2, .inr ⟨hlv, .inr ⟨by omega, rfl, rfl, by rw [if_neg (fun x => hm x.2), wo_no hno]⟩⟩⟩, f⟩
end
theorem ex_first : ∀ K : List Wh.KV, 0 < K.length → ∃ x, Wh.IsFirst K x
  | [], h => by cases h
  | [c], _ => ⟨c, by simp, fun y hy => by obtain rfl := List.mem_singleton.1 hy; exact Wh.lessK_irr _⟩
  | c :: d :: K, _ => by
    obtain ⟨x, h1, h2⟩ := ex_first (d :: K) (by simp)
    cases hl : Wh.lessK c x with
    | true =>
      refine ⟨c, by simp, fun y hy => ?_⟩
      rcases List.mem_cons.1 hy with rfl | hy
      · exact Wh.lessK_irr _
      · have h3 := h2 y hy
        have h4 : Wh.lessK x c = false := by
          cases e : Wh.lessK x c with
          | false => rfl
          | true => have := Wh.lessK_tr _ _ _ hl e; rw [Wh.lessK_irr] at this; cases this
        exact Wh.lessK_ntr _ _ _ h3 h4
    | false =>
      refine ⟨x, List.mem_cons_of_mem _ h1, fun y hy => ?_⟩
      rcases List.mem_cons.1 hy with rfl | hy
      · exact hl
      · exact h2 y hy
theorem ex_dues (now : Int) : ∀ (m : Nat) (K : List Wh.KV), ∃ o K1, Wh.Dues now m K o K1
  | 0, K => ⟨[], K, .full K⟩
  | m + 1, K => by
    by_cases h0 : 0 < K.length
    · obtain ⟨x, hx⟩ := ex_first K h0
      by_cases hd : now < x.2
      · exact ⟨[], K, .later m K x hx hd⟩
      · obtain ⟨o, K1, h⟩ := ex_dues now m (Wh.dropK K x.1)
        exact ⟨x.1 :: o, K1, .one m K _ K1 x o hx (by omega) (List.Perm.refl _) h⟩
    · have : K = [] := List.eq_nil_of_length_eq_zero (by omega)
      subst this
      exact ⟨[], [], .none m⟩
/-! What a cache owns, and that it may turn alone. -/
def own (cb pt b : Nat) (S : Nat → Prop) (x : Nat) : Prop := x = cb ∨ x = pt ∨ x = b ∨ S x
section
variable {w0 : Bs} {w w1 : World} {cb pt b pw most : Nat} {Sw S' : Nat → Prop} {L L' : List S98}
theorem CC.perm (h : CC w0 w cb pt b pw Sw most L) (hp : L.Perm L') : CC w0 w cb pt b pw Sw most L' := ⟨h.hd, tli_perm h.t (hp.map _), h.k.perm (hp.map _), h.lc, h.lt, h.lb, h.ls, h.f⟩
theorem CC.here (h : CC w0 w cb pt b pw Sw most L) : CC ⟨w, own cb pt b Sw⟩ w cb pt b pw Sw most L :=
  ⟨h.hd, h.t, h.k, .inl (.inl rfl), .inl (.inr (.inl rfl)), .inl (.inr (.inr (.inl rfl))), fun x hx => .inl (.inr (.inr (.inr hx))), Frm.refl _ _⟩
theorem CC.own_lo (h : CC w0 w cb pt b pw Sw most L) (x : Nat) (hx : own cb pt b Sw x) : w0.lo x := by
  rcases hx with rfl | rfl | rfl | hx
  · exact h.lc
  · exact h.lt
  · exact h.lb
  · exact h.ls x hx
theorem CC.back (h : CC w0 w cb pt b pw Sw most L) (h' : CC ⟨w, own cb pt b Sw⟩ w1 cb pt b pw S' most L') : CC w0 w1 cb pt b pw S' most L' :=
  ⟨h'.hd, h'.t, h'.k, h.lc, h.lt, h.lb, fun x hx => (h'.ls x hx).elim (h.own_lo x) (fun e => .inr (Nat.le_trans h.f.size e)), h.f.then h'.f (fun i hi e => (h.own_lo i e).nn hi)⟩
theorem CC.own_type (h : CC w0 w cb pt b pw Sw most L) (x : Nat) (cs : Array Value) (t : TypeId) (hx : own cb pt b Sw x) (hc : w.heap[x]? = some (.cells cs t (0, 0))) : t ≠ 83 ∧ t ≠ 98 ∧ t ≠ 85 ∧ t ≠ 9 ∧ t ≠ 126 := by
  obtain ⟨⟨c1, b1⟩, ⟨c2, b2⟩⟩ := itl_blk h.t
  rcases hx with rfl | rfl | rfl | hx
  · rw [h.hd] at hc; injection hc with hc; injection hc with _ hc _; subst hc; decide
  · rw [b1] at hc; injection hc with hc; injection hc with _ hc _; subst hc; decide
  · rw [b2] at hc; injection hc with hc; injection hc with _ hc _; subst hc; decide
  · rcases h.k.type _ _ _ hx hc with rfl | rfl | rfl <;> decide
theorem CC.len (h : CC w0 w cb pt b pw Sw most L) : L.length ≤ most ∧ most ≤ 4096 := ⟨itl_len h.t, tbig h.t⟩
end
/-- A cache beside the document's. -/
def PC (w0 w : World) (cb m most : Nat) (L M : List S98) : Prop := ∃ pt b pw Sw v, CC w0 w cb pt b pw Sw most L ∧ RK w m most M v ∧ w0.heap.size ≤ m
/-- A block of the loop's own. -/
def XB (w : World) (xb : Nat) (X : Array Value) : Prop := w.heap[xb]? = some (.cells X 85 (0, 0))
theorem ex_added (L : List S98) (most : Nat) (k : ByteArray) (hits u now : Int) : ∃ n code L', Added L most k hits u now n code L' := by
  by_cases hb : hits < 1 ∨ u ≤ now
  · exact ⟨0, 1, L, .inl ⟨hb, rfl, rfl, rfl⟩⟩
  have h1 : 1 ≤ hits := by omega
  have h2 : now < u := by omega
  cases hl : liveC L k now with
  | true => exact ⟨_, 0, _, .inr ⟨h1, h2, .inl ⟨hl, rfl, rfl, rfl⟩⟩⟩
  | false =>
    by_cases hf : most ≤ liveN L now
    · exact ⟨0, 6, L, .inr ⟨h1, h2, .inr ⟨hl, .inl ⟨hf, rfl, rfl, rfl⟩⟩⟩⟩
    · exact ⟨_, 0, _, .inr ⟨h1, h2, .inr ⟨hl, .inr ⟨by omega, rfl, rfl, rfl⟩⟩⟩⟩
section
variable {w0 w w1 : World} {cb m most xb : Nat} {X : Array Value} {L L1 M : List S98}
theorem PC.movedN (h : PC w0 w cb m most L M) (f : Frm (fun _ => False) w w1) : PC w0 w1 cb m most L M := by
  obtain ⟨pt, b, pw, Sw, v, h1, h2, h3⟩ := h
  exact ⟨pt, b, pw, Sw, v, h1.movedN f, h2.frm f (fun _ _ _ e => e.elim), h3⟩
theorem PC.drewN (h : PC w0 w cb m most L M) (n : Nat) : PC w0 (w.drewN n) cb m most L M := h.movedN ((Frm.refl _ w).drewN n)
theorem PC.f (h : PC w0 w cb m most L M) : Frm (fun _ => False) w0 w := by
  obtain ⟨pt, b, pw, Sw, v, h1, h2, h3⟩ := h
  exact h1.f
theorem PC.nd (h : PC w0 w cb m most L M) : (L.map (·.f0)).Nodup := by
  obtain ⟨pt, b, pw, Sw, v, h1, h2, h3⟩ := h
  exact kvC_nodup h1.nd
theorem PC.len (h : PC w0 w cb m most L M) : L.length ≤ most ∧ most ≤ 4096 := by
  obtain ⟨pt, b, pw, Sw, v, h1, h2, h3⟩ := h
  exact h1.len
theorem PC.perm (h : PC w0 w cb m most L M) (hp : L.Perm L1) : PC w0 w cb m most L1 M := by
  obtain ⟨pt, b, pw, Sw, v, h1, h2, h3⟩ := h
  exact ⟨pt, b, pw, Sw, v, h1.perm hp, h2, h3⟩
theorem XB.movedN (h : XB w xb X) (f : Frm (fun _ => False) w w1) : XB w1 xb X := f.blk h (fun e => e)
theorem XB.drewN (h : XB w xb X) (n : Nat) : XB (w.drewN n) xb X := h
/-- The cache has turned. -/
theorem PC.movedC {n : Nat} {pt b pw : Nat} {Sw S' : Nat → Prop} {v : Value} {L' : List S98} (h1 : CC w0 w cb pt b pw Sw most L) (h2 : RK w m most M v) (h3 : w0.heap.size ≤ m) (h' : CC ⟨w, own cb pt b Sw⟩ w1 cb pt b pw S' most L') (hx : XB w xb X) : PC w0 w1 cb m most L' M ∧ XB w1 xb X := by
  refine ⟨⟨pt, b, pw, S', v, h1.back h', h2.frm h'.f (fun x cs t hb hc => ?_), h3⟩, h'.f.blk hx (fun hb => ?_)⟩
  · have := h1.own_type x cs t hb hc
    exact ⟨this.1, this.2.1⟩
  · exact (h1.own_type xb _ _ hb hx).2.2.1 rfl
theorem PC.cadd (h : PC w0 w cb m most L M) (hx : XB w xb X) {k : ByteArray} (hs : k.size ≤ 1000) {hits u now n code : Int} (ha : Added L most k hits u now n code L1) : Calls Try.prog 41 #[.pointer (some ⟨cb, 0, none⟩), .string k, .int .i64 hits, .int .i64 u, .int .i64 now] w fun e w' => e = .returned (.tuple #[.int .i64 n, .int .i64 code]) ∧ PC w0 w' cb m most L1 M ∧ XB w' xb X := by
  have hnd := h.nd
  obtain ⟨pt, b, pw, Sw, v, h1, h2, h3⟩ := h
  refine (h1.here.add k hs hits u now).mono ?_
  rintro e w' ⟨n', code', S', L', a, h', ha'⟩
  obtain ⟨rfl, rfl, hp⟩ := ha'.uniq ha (List.Perm.refl _) hnd
  exact ⟨a, PC.movedC (n := 0) h1 h2 h3 (h'.perm hp) hx⟩
theorem PC.csweep (h : PC w0 w cb m most L M) (hx : XB w xb X) {now q : Int} {o : List ByteArray} {K' : List Wh.KV} (hd : Wh.Dues now q.toNat (kvC L) o K') : Calls Try.prog 54 #[.pointer (some ⟨cb, 0, none⟩), .int .i64 now, .int .i64 q] w fun e w' => e = .returned (.int .i64 (o.length : Nat)) ∧ PC w0 w' cb m most (wo L o) M ∧ XB w' xb X := by
  obtain ⟨pt, b, pw, Sw, v, h1, h2, h3⟩ := h
  refine (h1.here.sweep now q).mono ?_
  rintro e w' ⟨o', K2, a, hd', S', h'⟩
  obtain ⟨rfl, _⟩ := hd'.uniq hd (List.Perm.refl _)
  exact ⟨a, PC.movedC (n := 0) h1 h2 h3 h' hx⟩
/-- The document's has turned. -/
theorem PC.movedR {M' : List S98} (h : PC w0 w cb m most L M) (hr : ∃ v', RK w1 m most M' v') (f : Frm (fun b => b = m) w w1) (hx : XB w xb X) : PC w0 w1 cb m most L M' ∧ XB w1 xb X := by
  obtain ⟨pt, b, pw, Sw, v, h1, h2, h3⟩ := h
  obtain ⟨v', hv⟩ := hr
  have hno : ∀ x, own cb pt b Sw x → x ≠ m := fun x hx e => by subst e; exact (h1.own_type x _ _ hx h2.hd).1 rfl
  obtain ⟨n1, n2, n3, n4, n5⟩ := h1.tout
  have hcc : CC w0 w1 cb pt b pw Sw most L := ⟨f.blk h1.hd (hno _ (.inl rfl)), itl_frm h1.t f (hno _ (.inr (.inl rfl))) (hno _ (.inr (.inr (.inl rfl)))), h1.k.frm f (fun x hx => hno x (.inr (.inr (.inr hx)))), h1.lc, h1.lt, h1.lb, h1.ls, h1.f.then f (fun i hi e => by have hi : i < w0.heap.size := hi; subst e; omega)⟩
  exact ⟨⟨pt, b, pw, Sw, v', hcc, hv, h3⟩, f.blk hx (blk_ne hx h2.hd (by decide))⟩
theorem PC.radd (h : PC w0 w cb m most L M) (hx : XB w xb X) {L0 : List S98} (hp : L0.Perm M) (hn : (L0.map (·.f0)).Nodup) (hl : L0.length ≤ most) {k : ByteArray} {hits u now n code : Int} (ha : Added L0 most k hits u now n code L1) : Calls Try.prog 53 #[.pointer (some ⟨m, 0, none⟩), .string k, .int .i64 hits, .int .i64 u, .int .i64 now] w fun e w' => e = .returned (.tuple #[.int .i64 n, .int .i64 code]) ∧ ∃ M1, PC w0 w' cb m most L M1 ∧ L1.Perm M1 ∧ XB w' xb X := by
  have hm := h.len.2
  obtain ⟨pt, b, pw, Sw, v, h1, h2, h3⟩ := h
  refine (rkadd h2 (perm_nodup hp hn) (by rw [← hp.length_eq]; exact hl) (by omega) k hits u now).mono ?_
  rintro e w' ⟨n', code', v', M1, M', a, hv, hp1, ha', f⟩
  obtain ⟨rfl, rfl, hp2⟩ := ha.uniq ha' hp hn
  obtain ⟨q1, q2⟩ := PC.movedR (L := L) ⟨pt, b, pw, Sw, v, h1, h2, h3⟩ ⟨v', hv⟩ f hx
  exact ⟨a, M1, q1, hp2.trans hp1.symm, q2⟩
theorem PC.rsweep (h : PC w0 w cb m most L M) (hx : XB w xb X) {L0 : List S98} (hp : L0.Perm M) (hn : (L0.map (·.f0)).Nodup) {now q : Int} {o : List ByteArray} {K' : List Wh.KV} (hd : Wh.Dues now q.toNat (kvC L0) o K') : Calls Try.prog 55 #[.pointer (some ⟨m, 0, none⟩), .int .i64 now, .int .i64 q] w fun e w' => e = .returned (.int .i64 (o.length : Nat)) ∧ ∃ M1, PC w0 w' cb m most L M1 ∧ (wo L0 o).Perm M1 ∧ XB w' xb X := by
  obtain ⟨pt, b, pw, Sw, v, h1, h2, h3⟩ := h
  refine (rksweep h2 (perm_nodup hp hn) now q).mono ?_
  rintro e w' ⟨o', v', M1, a, hv, hn1, f, hd', hp1⟩
  obtain ⟨rfl, _⟩ := hd.uniq hd' (hp.map _)
  obtain ⟨q1, q2⟩ := PC.movedR (L := L) ⟨pt, b, pw, Sw, v, h1, h2, h3⟩ ⟨v', hv⟩ f hx
  exact ⟨a, M1, q1, (wo_perm hp o).trans hp1.symm, q2⟩
end
end Go.Proofs.Ytjgoddieamphpaa.Ca
