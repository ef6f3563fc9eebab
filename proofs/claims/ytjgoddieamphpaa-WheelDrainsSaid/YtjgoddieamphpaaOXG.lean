/- A part of the proof. -/
import Derived.Test.YtjgoddieamphpaaOXF
namespace Go.Proofs.Ytjgoddieamphpaa.Wh
open Go.RowKit Go.Sort Go.Proofs.YtjgoddieamphpaaW.PrintWords Go.Proofs.YtjgoddieamphpaaW.PrintLast Heap Go.Proofs.Ytjgoddieamphpaa.Obj Go.Proofs.Ytjgoddieamphpaa.PWheelActs
set_option maxRecDepth 100000
set_option linter.unusedVariables false
/-- A wheel that holds K, and owns S. -/
def WK (w : World) (S : Nat → Prop) (p : Nat) (K : List KV) : Prop := ∃ mb v xs D, WS w p mb v xs D ∧ (kv xs).Perm K ∧ ∀ b, S b ↔ FO p mb v xs b
def hasK (K : List KV) (k : ByteArray) : Bool := decide (∃ c ∈ K, c.1 = k)
theorem hasK_perm {K L : List KV} (h : K.Perm L) (k : ByteArray) : hasK K k = hasK L k := by
  unfold hasK
  congr 1
  exact propext ⟨fun ⟨c, hc, e⟩ => ⟨c, h.mem_iff.1 hc, e⟩, fun ⟨c, hc, e⟩ => ⟨c, h.mem_iff.2 hc, e⟩⟩
/-- When a key ends. -/
def atK (K : List KV) (k : ByteArray) : Int := ((K.find? fun c => decide (c.1 = k)).map (·.2)).getD 0
theorem atK_of {K : List KV} (hn : (K.map (·.1)).Nodup) {k : ByteArray} {t : Int} (h : (k, t) ∈ K) : atK K k = t := by
  induction K with
  | nil => cases h
  | cons c K ih =>
    rw [List.map_cons, List.nodup_cons] at hn
    unfold atK
    rcases List.mem_cons.1 h with rfl | h
    · rw [List.find?_cons_of_pos (by simp)]; rfl
    · have hne : ¬ c.1 = k := fun e => hn.1 (List.mem_map.2 ⟨(k, t), h, e.symm⟩)
      rw [List.find?_cons_of_neg (by simp [hne])]
      exact ih hn.2 h
theorem atK_none {K : List KV} {k : ByteArray} (h : ∀ c ∈ K, c.1 ≠ k) : atK K k = 0 := by
  unfold atK
  rw [List.find?_eq_none.2 (fun c hc => by simpa using h c hc)]; rfl
theorem Dues.perm {now : Int} {m : Nat} {K K1 L : List KV} {o : List ByteArray} (h : Dues now m K o K1) (hp : K.Perm L) : ∃ L1, Dues now m L o L1 ∧ K1.Perm L1 := by
  cases h with
  | full => exact ⟨L, .full L, hp⟩
  | none => rw [hp.symm.eq_nil]; exact ⟨[], .none _, List.Perm.refl _⟩
  | later => exact ⟨L, .later _ _ _ ⟨hp.mem_iff.1 (‹IsFirst K _› : IsFirst K _).1, fun y hy => (‹IsFirst K _› : IsFirst K _).2 y (hp.mem_iff.2 hy)⟩ ‹_›, hp⟩
  | one => exact ⟨K1, .one _ _ _ _ _ _ ⟨hp.mem_iff.1 (‹IsFirst K _› : IsFirst K _).1, fun y hy => (‹IsFirst K _› : IsFirst K _).2 y (hp.mem_iff.2 hy)⟩ ‹_› (List.Perm.trans ‹_› (dropK_perm hp _)) ‹_›, List.Perm.refl _⟩
section
variable {w w1 : World} {S : Nat → Prop} {p : Nat} {K L : List KV}
theorem WK.perm (h : WK w S p K) (hp : K.Perm L) : WK w S p L := by
  obtain ⟨mb, v, xs, D, h1, h2, h3⟩ := h
  exact ⟨mb, v, xs, D, h1, h2.trans hp, h3⟩
theorem WK.lt (h : WK w S p K) (b : Nat) (hb : S b) : b < w.heap.size := by
  obtain ⟨mb, v, xs, D, h1, h2, h3⟩ := h
  exact h1.own_lt b ((h3 b).1 hb)
theorem WK.type (h : WK w S p K) (b : Nat) (cs : Array Value) (t : TypeId) (hb : S b) (hc : w.heap[b]? = some (.cells cs t (0, 0))) : t = 108 ∨ t = 109 ∨ t = 111 := by
  obtain ⟨mb, v, xs, D, h1, h2, h3⟩ := h
  rcases (h3 b).1 hb with rfl | rfl | e
  · rw [h1.r.hd] at hc; injection hc with hc; injection hc with _ hc _; exact .inl hc.symm
  · obtain ⟨es, c, hm⟩ := h1.m.blk; rw [hm] at hc; cases hc
  · obtain ⟨cs', t', hb', ht⟩ := e.blk h1.r
    rw [hc] at hb'
    injection hb' with hb'
    injection hb' with _ hb' _
    subst hb'
    exact .inr ht
theorem WK.nodup (h : WK w S p K) : (K.map (·.1)).Nodup := by
  obtain ⟨mb, v, xs, D, h1, h2, h3⟩ := h
  refine (h2.map (·.1)).nodup_iff.1 ?_
  have := h1.kn
  unfold kv
  rw [List.map_map]
  exact this
theorem WK.frm (h : WK w S p K) {F : Nat → Prop} (k : Frm F w w1) (hn : ∀ b, S b → ¬ F b) : WK w1 S p K := by
  obtain ⟨mb, v, xs, D, h1, h2, h3⟩ := h
  exact ⟨mb, v, xs, D, h1.frm k (fun b hb => hn b ((h3 b).2 hb)), h2, h3⟩
theorem WK.drewN (h : WK w S p K) (n : Nat) : WK (w.drewN n) S p K := h.frm ((Frm.refl (fun _ => False) w).drewN n) (fun _ _ e => e)
theorem WK.drew (h : WK w S p K) : WK w.drew S p K := h.frm ((Frm.refl (fun _ => False) w).drew) (fun _ _ e => e)
theorem WK.len (h : WK w S p K) : Calls Try.prog 38 #[.pointer (some ⟨p, 0, none⟩)] w fun e w' => e = .returned (.int .i64 (K.length : Nat)) ∧ w = w' := by
  obtain ⟨mb, v, xs, D, h1, h2, h3⟩ := h
  have : xs.length = K.length := by rw [← h2.length_eq]; unfold kv; rw [List.length_map]
  rw [← this]
  exact whlen_any h1
theorem WK.at_ (h : WK w S p K) (k : ByteArray) (hs : k.size ≤ 1000) : Calls Try.prog 36 #[.pointer (some ⟨p, 0, none⟩), .string k] w fun e w' => e = .returned (.tuple #[.int .i64 (atK K k), .bool (hasK K k)]) ∧ w = w' := by
  have hn := h.nodup
  obtain ⟨mb, v, xs, D, h1, h2, h3⟩ := h
  by_cases hy : ∃ y ∈ xs, y.2.1 = k
  · obtain ⟨y, hy, rfl⟩ := hy
    have hm : y.2 ∈ K := h2.mem_iff.1 (List.mem_map.2 ⟨y, hy, rfl⟩)
    rw [atK_of hn (t := y.2.2) hm, show hasK K y.2.1 = true from decide_eq_true ⟨y.2, hm, rfl⟩]
    exact what_hit h1 y hy
  · have hne : ∀ y ∈ xs, y.2.1 ≠ k := fun y h1 e => hy ⟨y, h1, e⟩
    have hne2 : ∀ c ∈ K, c.1 ≠ k := fun c hc => kv_apart hne c (h2.mem_iff.2 hc)
    rw [atK_none hne2, show hasK K k = false from decide_eq_false (fun ⟨c, hc, e⟩ => hne2 c hc e)]
    exact what_miss h1 k hs hne
theorem WK.next_none (h : WK w S p K) (h0 : K.length = 0) : Calls Try.prog 34 #[.pointer (some ⟨p, 0, none⟩)] w fun e w' => e = .returned (.tuple #[.string ⟨#[]⟩, .int .i64 0, .bool false]) ∧ ∃ n, w' = w.drewN n := by
  obtain ⟨mb, v, xs, D, h1, h2, h3⟩ := h
  refine wnext_none h1 ?_
  have := h2.length_eq
  unfold kv at this
  rw [List.length_map] at this
  omega
theorem WK.next_some (h : WK w S p K) (x : KV) (hx : IsFirst K x) : Calls Try.prog 34 #[.pointer (some ⟨p, 0, none⟩)] w fun e w' => e = .returned (.tuple #[.string x.1, .int .i64 x.2, .bool true]) ∧ ∃ n, w' = w.drewN n := by
  obtain ⟨mb, v, xs, D, h1, h2, h3⟩ := h
  have h4 : 0 < xs.length := by
    have := h2.length_eq
    unfold kv at this
    rw [List.length_map] at this
    have := List.length_pos_of_mem hx.1
    omega
  have e := (first_is h1 h4).uniq hx h2
  rw [← e]
  exact wnext_some h1 (xs.length - 1) (by omega)
theorem WK.drop (h : WK w S p K) (k : ByteArray) (hs : k.size ≤ 1000) : Calls Try.prog 29 #[.pointer (some ⟨p, 0, none⟩), .string k] w fun e w' => e = .returned (.bool (hasK K k)) ∧ ∃ S', WK w' S' p (dropK K k) ∧ Frm S w w' ∧ ∀ b, S' b → S b ∨ w.heap.size ≤ b := by
  obtain ⟨mb, v, xs, D, h1, h2, h3⟩ := h
  refine (wdrop_any h1 k hs).mono ?_
  rintro e w' ⟨a, v', ys, D', c1, c2, _, c4, c5, _⟩
  exact ⟨by rw [← hasK_perm h2]; exact a, _, ⟨mb, v', ys, D', c1, c2.trans (dropK_perm h2 k), fun b => Iff.rfl⟩, c5.mono (fun b _ hb => (h3 b).2 hb), fun b hb => .inl ((h3 b).2 (c4 b hb))⟩
theorem WK.put (h : WK w S p K) (k : ByteArray) (hs : k.size ≤ 1000) (t : Int) (hl : K.length < 9999) : Calls Try.prog 27 #[.pointer (some ⟨p, 0, none⟩), .string k, .int .i64 t] w fun e w' => e = .returned (.tuple #[]) ∧ ∃ S', WK w' S' p (dropK K k ++ [(k, t)]) ∧ Frm S w w' ∧ ∀ b, S' b → S b ∨ w.heap.size ≤ b := by
  obtain ⟨mb, v, xs, D, h1, h2, h3⟩ := h
  have h4 : xs.length < 9999 := by
    have := h2.length_eq
    unfold kv at this
    rw [List.length_map] at this
    omega
  refine (wput_any h1 k hs t h4).mono ?_
  rintro e w' ⟨a, v', zs, D', c1, c2, c3, c4⟩
  exact ⟨a, _, ⟨mb, v', zs, D', c1, c2.trans ((dropK_perm h2 k).append_right _), fun b => Iff.rfl⟩, c4.mono (fun b _ hb => (h3 b).2 hb), fun b hb => (c3 b hb).imp (fun h => (h3 b).2 h) id⟩
theorem WK.due (h : WK w S p K) (now most : Int) : Calls Try.prog 32 #[.pointer (some ⟨p, 0, none⟩), .int .i64 now, .int .i64 most] w fun e w' => ∃ A c o K' S', e = .returned (.slice A o.length c) ∧ Kd.R Kd.string 9 w' w.heap.size (fun _ => True) (.slice A o.length c) o ∧ WK w' S' p K' ∧ Frm S w w' ∧ (∀ b, S' b → S b ∨ w.heap.size ≤ b) ∧ Dues now most.toNat K o K' := by
  obtain ⟨mb, v, xs, D, h1, h2, h3⟩ := h
  refine (wdue_any h1 now most).mono ?_
  rintro e w' ⟨A, c, o, v', ys, D', a, c1, c2, c3, c4, c5⟩
  obtain ⟨L1, d1, d2⟩ := c5.perm h2
  exact ⟨A, c, o, L1, _, a, c1, ⟨mb, v', ys, D', c2, d2, fun b => Iff.rfl⟩, c4.mono (fun b _ hb => (h3 b).2 hb), fun b hb => .inl ((h3 b).2 (c3 b hb)), d1⟩
end
theorem wnew_any (w : World) : Calls Try.prog 26 #[] w fun e w' => ∃ p S, e = .returned (.pointer (some ⟨p, 0, none⟩)) ∧ WK w' S p [] ∧ w.heap.size ≤ p ∧ (∀ b, S b → w.heap.size ≤ b) ∧ Frm (fun _ => False) w w' := by
  have hmm := @run_makeMap Try.prog
  go_enter Try.func26, Try.ntmps26
  go_wp2
  go_ret
  have hb1 : ((w.alloc (.map #[] 0)).alloc (.cells #[.slice none 0 0, .map (some w.heap.size)] 108)).heap[w.heap.size + 1]? = some (.cells #[.slice none 0 0, .map (some w.heap.size)] 108 (0, 0)) := by
    have := blk_new (w.alloc (.map #[] 0)) (.cells #[.slice none 0 0, .map (some w.heap.size)] 108)
    simpa using this
  have hm : MapOf ((w.alloc (.map #[] 0)).alloc (.cells #[.slice none 0 0, .map (some w.heap.size)] 108)) w.heap.size [] (.map []) :=
    (MapOf.made w).frm (Below.heap_alloc _ _ _ (by simp))
  refine ⟨w.heap.size + 1, FO (w.heap.size + 1) w.heap.size (.slice none 0 0) [], rfl, ⟨w.heap.size, .slice none 0 0, [], .map [], ⟨⟨hb1, ⟨rfl, .inl ⟨rfl, rfl⟩⟩, (fun i hi => absurd hi (Nat.not_lt_zero i)), List.nodup_nil, Nat.zero_le _⟩, hm, (fun c c0 cn => absurd cn (Nat.not_lt_zero c)), List.nodup_nil, (fun x hx => by cases hx)⟩, List.Perm.refl _, fun b => Iff.rfl⟩, by omega, ?_, ((Frm.refl (fun _ => False) w).alloc _).alloc _⟩
  rintro b (e | e | e | e)
  · omega
  · omega
  · cases e
  · cases e
end Go.Proofs.Ytjgoddieamphpaa.Wh
