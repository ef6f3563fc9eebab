/- A part of the proof. -/
import Derived.Test.YtjgoddieamphpaaOTQ
namespace Go.Proofs.Ytjgoddieamphpaa.Obj
open Go.RowKit Go.Proofs.YtjgoddieamphpaaW.PrintWords Go.Proofs.YtjgoddieamphpaaW.PrintLast Probe Go.Proofs.Ytjgoddieamphpaa.PProbeActs
set_option maxRecDepth 100000
set_option linter.unusedVariables false
theorem info_str : (Try.prog.info? 9).map (fun i => (i.zero, i.size, i.bytes)) = some (some (.string ⟨#[]⟩), 1, 16) := by kernel_rfl
/-- A row of one-cell elements, cut short at its end. -/
theorem row_take {α : Type} (enc : α → Value) (h1 : ∀ x, (enc x).oneCell' = true) {e base : Nat} {w : World} {g n cap : Nat} {xs : List α} (h : Kd.R (Kd.scalar enc h1) e w base (fun _ => True) (.slice (some ⟨g, 0, none⟩) n cap) xs) (k : Nat) (hk : k ≤ n) :
    Kd.R (Kd.scalar enc h1) e w base (fun _ => True) (.slice (some ⟨g, 0, none⟩) k cap) (xs.take k) := by
  obtain ⟨hok, inner, hown, hr⟩ := h
  have hn : xs.length = n := by
    obtain ⟨A', c', e', _⟩ := Kd.R_reads (show Kd.R (Kd.scalar enc h1) e w base (fun _ => True) (.slice (some ⟨g, 0, none⟩) n cap) xs from ⟨hok, inner, hown, hr⟩)
    injection e' with _ e2 _
    exact e2.symm
  have hxs : inner.length = n := by have h3 := hr.1; have : (Kd.scalar enc h1).sz = 1 := rfl; rw [this] at h3; omega
  refine ⟨fun _ _ => trivial, inner.take k, ?_, ?_⟩
  · refine ⟨by rw [List.length_take, hxs, List.length_take, hn]; show _ = _ * 1; omega, .inr ?_⟩
    rcases hown.2 with ⟨hv, _⟩ | ⟨g', cap', cur, hv, hb, hh, q1, q2, q3, q4⟩
    · cases hv
    · injection hv with ha _ hc
      injection ha with ha
      injection ha with hg
      subst hg; subst hc
      refine ⟨g, cap, cur, by rw [List.length_take, hn, Nat.min_eq_left hk], hb, hh, by rw [List.length_take, hn]; omega, q2, q3, ?_⟩
      rw [← q4, List.length_take, hn, Nat.min_eq_left hk, List.take_take]
      have : (Kd.scalar enc h1).sz = 1 := rfl
      rw [this, Nat.mul_one, Nat.mul_one, Nat.min_eq_left hk]
  · refine ⟨by rw [List.length_take, List.length_take, hxs, hn]; show _ = _ * 1; omega, fun j p hj => ?_⟩
    have hjk : j < k := by have := (List.getElem?_eq_some_iff.1 hj).1; rw [List.length_take] at this; omega
    rw [List.getElem?_take_of_lt hjk] at hj
    have := hr.2 j p hj
    have e1 : (Kd.scalar enc h1).sz = 1 := rfl
    rw [e1] at this ⊢
    rw [List.drop_take]
    rw [List.take_take, Nat.min_eq_left (by omega)]
    have hv : (Value.slice (some ⟨g, 0, none⟩) k cap).ownBlock = (Value.slice (some ⟨g, 0, none⟩) n cap).ownBlock := rfl
    rw [hv]
    exact this
/-- The row 'have' beside the table. -/
structure PF (w0 w : World) (p b n : Nat) (L : List S98) (v : Value) : Prop where
  t : TLI (fun x => x) w p b n L
  r : Kd.R Kd.string 9 w w0.heap.size (fun _ => True) v (L.map (·.f0))
  f : Frm (fun _ => False) w0 w
  hp : w0.heap.size ≤ p
  hb : w0.heap.size ≤ b
theorem str_frm {w w1 : World} {base : Nat} {v : Value} {xs : List ByteArray} (h : Kd.R Kd.string 9 w base (fun _ => True) v xs) {F : Nat → Prop} (k : Frm F w w1) (hF : ∀ b, F b → b < w.heap.size → ∃ cs t, w.heap[b]? = some (.cells cs t (0, 0)) ∧ t ≠ 9) : Kd.R Kd.string 9 w1 base (fun _ => True) v xs := by
  refine Kd.R_mono (Kd.R_step (Kd.R_bound h) ?_) (fun _ _ => trivial)
  rintro b ⟨_, _, _, q, hq, cells, hc⟩ hlt
  refine k.block b hlt fun hf => ?_
  obtain ⟨cs, t, hb, h2⟩ := hF b hf hlt
  rw [hc] at hb
  injection hb with hb; injection hb with _ hb _
  have : q = 9 := by simpa [Kd.string, Kd.scalar] using hq
  exact h2 (hb ▸ this)
section
variable {w0 w : World} {p b n : Nat} {L : List S98} {v : Value}
theorem PF.len (h : PF w0 w p b n L v) : ∃ A c, v = .slice A L.length c := by
  obtain ⟨A, c, e⟩ := Kd.R_slice h.r
  rw [List.length_map] at e
  exact ⟨A, c, e⟩
theorem PF.moved {w1 : World} {L' : List S98} (h : PF w0 w p b n L v) (t : TLI (fun x => x) w1 p b n L') (k : Frm (fun i => i = p ∨ i = b) w w1) (hm : L'.map (·.f0) = L.map (·.f0)) : PF w0 w1 p b n L' v := by
  obtain ⟨⟨c1, b1⟩, ⟨c2, b2⟩⟩ := itl_blk h.t
  refine ⟨t, ?_, h.f.then k (fun i hi hk => by have := h.hp; have := h.hb; rcases hk with rfl | rfl <;> omega), h.hp, h.hb⟩
  rw [hm]
  refine str_frm h.r k ?_
  rintro i (rfl | rfl) _
  · exact ⟨_, _, b1, by decide⟩
  · exact ⟨_, _, b2, by decide⟩
theorem PF.drewN (h : PF w0 w p b n L v) (q : Nat) : PF w0 (w.drewN q) p b n L v :=
  ⟨itl_frm h.t ((Frm.refl (fun _ => False) w).drewN q) (fun x => x) (fun x => x), Kd.R_move h.r (fun _ _ => rfl), h.f.drewN q, h.hp, h.hb⟩
theorem PF.cell (h : PF w0 w p b n L v) {a : Addr} {u : Value} (hc : w0.cell? a = some u) : w.cell? a = some u := h.f.cell hc (fun x => x)
theorem PF.at_ {A : Option Addr} {m c : Nat} (h : PF w0 w p b n L (.slice A m c)) (i : Nat) (hi : i < L.length) : ∃ ad, A = some ad ∧ w.cell? (ad.add i) = some (.string (L.getD i z98).f0) := by
  obtain ⟨A', c', e, _, hr⟩ := Kd.R_reads h.r
  injection e with e1 e2 e3
  subst e1
  have hr' : Kd.C Kd.string w A (L.map (·.f0)).length (L.map (·.f0)) := hr
  obtain ⟨ad, e, hc⟩ := texts_at hr' i (by simpa using hi)
  refine ⟨ad, e, ?_⟩
  rw [hc]
  congr 2
  unfold strAt
  rw [List.getD_eq_getElem?_getD, List.getElem?_map, List.getElem?_eq_getElem hi, getD_at L i hi]; rfl
end
theorem putL_keys (L : List S98) (n : Nat) (k : ByteArray) (x : Int) : (putL L n k x).map (·.f0) = match idx L k with | some _ => L.map (·.f0) | none => if n ≤ L.length then L.map (·.f0) else L.map (·.f0) ++ [k] := by
  unfold putL
  cases hi : idx L k with
  | some i =>
    obtain ⟨hl, _⟩ := idx_some hi
    rw [List.map_set]
    apply List.ext_getElem (by simp)
    intro j h1 h2
    rw [List.getElem_set]
    split
    · rename_i e; subst e; rw [List.getElem_map, getD_at L i hl]
    · rfl
  | none =>
    show (if n ≤ L.length then L else L ++ [⟨k, x, 0⟩]).map (·.f0) = if n ≤ L.length then L.map (·.f0) else L.map (·.f0) ++ [k]
    by_cases h : n ≤ L.length
    · rw [if_pos h, if_pos h]
    · rw [if_neg h, if_neg h]; simp
theorem idx_nodup {L : List S98} (hn : (L.map (·.f0)).Nodup) (i : Nat) (hi : i < L.length) : idx L (L.getD i z98).f0 = some i := by
  induction L generalizing i with
  | nil => simp at hi
  | cons c t ih =>
    rw [List.map_cons, List.nodup_cons] at hn
    cases i with
    | zero => exact if_pos rfl
    | succ i =>
      have hi' : i < t.length := by simpa using hi
      have e : (c :: t).getD (i + 1) z98 = t.getD i z98 := by simp
      rw [e]
      have hne : c.f0 ≠ (t.getD i z98).f0 := by
        intro he
        refine hn.1 ?_
        rw [he]
        exact List.mem_map.2 ⟨t.getD i z98, by rw [getD_at t i hi']; exact List.getElem_mem hi', rfl⟩
      show (if c.f0 = _ then _ else _) = _
      rw [if_neg hne, ih hn.2 i hi']
      rfl
theorem drop_last (L : List S98) (h : 0 < L.length) : dropAt L (L.length - 1) = L.take (L.length - 1) := by
  unfold dropAt
  rw [List.drop_eq_nil_of_le (by omega), List.append_nil]
theorem idx_take_succ (L : List S98) (k : Nat) (hk : k < L.length) (x : ByteArray) : hasB (L.take (k + 1)) x = (hasB (L.take k) x || decide ((L.getD k z98).f0 = x)) := by
  unfold hasB
  induction L generalizing k with
  | nil => simp at hk
  | cons c t ih =>
    cases k with
    | zero =>
      simp only [List.take_succ_cons, List.take_zero, List.getD_cons_zero]
      show (if c.f0 = x then some 0 else _).isSome = _
      by_cases h : c.f0 = x
      · simp [h]
      · simp [h, idx]
    | succ k =>
      have hk' : k < t.length := by simpa using hk
      have := ih k hk'
      simp only [List.take_succ_cons, List.getD_cons_succ]
      show (if c.f0 = x then some 0 else (idx (t.take (k + 1)) x).map (· + 1)).isSome = ((if c.f0 = x then some 0 else (idx (t.take k) x).map (· + 1)).isSome || _)
      by_cases h : c.f0 = x
      · simp [h]
      · simp only [h, if_false, Option.isSome_map]
        exact this
section
variable {w0 w : World} {p b n : Nat} {L : List S98} {v : Value}
/-- A put of a key that is there, or for which there is no room: the keys stay. -/
theorem PF.put_stay (h : PF w0 w p b n L v) (k : ByteArray) (hs : k.size ≤ 9223372036854775807) (i : Nat) (hk : (putL L n k i).map (·.f0) = L.map (·.f0)) :
    Calls Try.prog 21 #[.pointer (some ⟨p, 0, none⟩), .string k, .int .i64 (i : Int)] w fun e w' => e = .returned (.int .i64 (putC L n k)) ∧ PF w0 w' p b n (putL L n k i) v :=
  (itput h.t k hs (i : Int) (i : Int) rfl).mono fun e w' ⟨a, t, f⟩ => ⟨a, h.moved t f hk⟩
/-- A put of what is new: the row does not have it yet. -/
theorem PF.put_new (h : PF w0 w p b n L v) (k : ByteArray) (hs : k.size ≤ 9223372036854775807) (i : Nat) :
    Calls Try.prog 21 #[.pointer (some ⟨p, 0, none⟩), .string k, .int .i64 (i : Int)] w fun e w' => e = .returned (.int .i64 (putC L n k)) ∧ TLI (fun x => x) w' p b n (putL L n k i) ∧ Kd.R Kd.string 9 w' w0.heap.size (fun _ => True) v (L.map (·.f0)) ∧ Frm (fun _ => False) w0 w' := by
  refine (itput h.t k hs (i : Int) (i : Int) rfl).mono ?_
  rintro e w' ⟨a, t, f⟩
  obtain ⟨⟨c1, b1⟩, ⟨c2, b2⟩⟩ := itl_blk h.t
  refine ⟨a, t, ?_, h.f.then f (fun i hi hk => by have := h.hp; have := h.hb; rcases hk with rfl | rfl <;> omega)⟩
  refine str_frm h.r f ?_
  rintro j (rfl | rfl) _
  · exact ⟨_, _, b1, by decide⟩
  · exact ⟨_, _, b2, by decide⟩
/-- The new key is appended. -/
theorem PF.appended {w1 : World} {L' : List S98} {v' : Value} {k : ByteArray} (t : TLI (fun x => x) w p b n L') (r : Kd.R Kd.string 9 w w0.heap.size (fun _ => True) v (L.map (·.f0))) (g : w.grownBy w1 v.ownBlock) (r' : Kd.R Kd.string 9 w1 w0.heap.size (fun _ => True) v' (L.map (·.f0) ++ [k])) (hb1 : Below w0.heap.size w0 w1)
    (hk : L'.map (·.f0) = L.map (·.f0) ++ [k]) (hp : w0.heap.size ≤ p) (hb : w0.heap.size ≤ b) : PF w0 w1 p b n L' v' := by
  obtain ⟨⟨c1, b1⟩, ⟨c2, b2⟩⟩ := itl_blk t
  have fr : Frm (fun j => some j = v.ownBlock) w w1 := ⟨g.os, g.tape, g.output, g.size, fun j hj hn => g.block j hj hn⟩
  exact ⟨itl_frm t fr (Kd.R_ne r b1 (by decide)) (Kd.R_ne r b2 (by decide)), by rw [hk]; exact r', Frm.of_below hb1, hp, hb⟩
theorem PF.drop_any (h : PF w0 w p b n L v) (k : ByteArray) (hs : k.size ≤ 9223372036854775807) :
    Calls Try.prog 22 #[.pointer (some ⟨p, 0, none⟩), .string k] w fun e w' => e = .returned (.bool (hasB L k)) ∧ TLI (fun x => x) w' p b n (match idx L k with | some i => dropAt L i | none => L) ∧ Kd.R Kd.string 9 w' w0.heap.size (fun _ => True) v (L.map (·.f0)) ∧ Frm (fun _ => False) w0 w' := by
  refine (itdrop h.t k hs).mono ?_
  rintro e w' ⟨a, t, f⟩
  obtain ⟨⟨c1, b1⟩, ⟨c2, b2⟩⟩ := itl_blk h.t
  refine ⟨a, t, ?_, h.f.then f (fun i hi hk => by have := h.hp; have := h.hb; rcases hk with rfl | rfl <;> omega)⟩
  refine str_frm h.r f ?_
  rintro j (rfl | rfl) _
  · exact ⟨_, _, b1, by decide⟩
  · exact ⟨_, _, b2, by decide⟩
/-- The row and the table, the table less the last key (the row still has it). -/
structure PD (w0 w : World) (p b n : Nat) (L : List S98) (v : Value) : Prop where
  t : TLI (fun x => x) w p b n (L.take (L.length - 1))
  r : Kd.R Kd.string 9 w w0.heap.size (fun _ => True) v (L.map (·.f0))
  f : Frm (fun _ => False) w0 w
  hp : w0.heap.size ≤ p
  hb : w0.heap.size ≤ b
  pos : 0 < L.length
  nd : (L.map (·.f0)).Nodup
theorem PF.size (h : PF w0 w p b n L v) (i : Nat) (hi : i < L.length) : (L.getD i z98).f0.size ≤ 9223372036854775807 := by
  obtain ⟨sl, h1, h2⟩ := h.t
  refine h1.keys (PrI (fun x => x) (L.getD i z98)) (h2.mem_iff.2 (List.mem_map.2 ⟨_, ?_, rfl⟩))
  rw [getD_at L i hi]; exact List.getElem_mem hi
theorem PF.nodup (h : PF w0 w p b n L v) : (L.map (·.f0)).Nodup := by
  obtain ⟨sl, h1, h2⟩ := h.t
  exact itl_nodup h1 h2
theorem PF.drop_last (h : PF w0 w p b n L v) (hpos : 0 < L.length) (hs : (L.getD (L.length - 1) z98).f0.size ≤ 9223372036854775807) :
    Calls Try.prog 22 #[.pointer (some ⟨p, 0, none⟩), .string (L.getD (L.length - 1) z98).f0] w fun e w' => e = .returned (.bool true) ∧ PD w0 w' p b n L v := by
  have hi := idx_nodup h.nodup (L.length - 1) (by omega)
  refine (h.drop_any _ hs).mono ?_
  rintro e w' ⟨a, t, r, f⟩
  rw [show hasB L (L.getD (L.length - 1) z98).f0 = true by unfold hasB; rw [hi]; rfl] at a
  rw [hi] at t
  have t' : TLI (fun x => x) w' p b n (dropAt L (L.length - 1)) := t
  rw [Obj.drop_last L hpos] at t'
  exact ⟨a, t', r, f, h.hp, h.hb, hpos, h.nodup⟩
theorem PD.again (h : PD w0 w p b n L v) (hs : (L.getD (L.length - 1) z98).f0.size ≤ 9223372036854775807) :
    Calls Try.prog 22 #[.pointer (some ⟨p, 0, none⟩), .string (L.getD (L.length - 1) z98).f0] w fun e w' => e = .returned (.bool false) ∧ PD w0 w' p b n L v := by
  have hpos := h.pos
  have hi : idx (L.take (L.length - 1)) (L.getD (L.length - 1) z98).f0 = none := by
    cases hx : idx (L.take (L.length - 1)) (L.getD (L.length - 1) z98).f0 with
    | none => rfl
    | some j =>
      exfalso
      obtain ⟨hl, hk⟩ := idx_some hx
      rw [List.length_take] at hl
      have h1 := idx_nodup h.nd j (by omega)
      have h2 := idx_nodup h.nd (L.length - 1) (by omega)
      have e : (L.take (L.length - 1)).getD j z98 = L.getD j z98 := by
        rw [getD_at _ _ (by rw [List.length_take]; omega), getD_at _ _ (by omega), List.getElem_take]
      rw [e] at hk
      rw [hk, h2] at h1
      have := Option.some.inj h1
      omega
  obtain ⟨⟨c1, b1⟩, ⟨c2, b2⟩⟩ := itl_blk h.t
  refine (itdrop h.t _ hs).mono ?_
  rintro e w' ⟨a, t, f⟩
  rw [show hasB (L.take (L.length - 1)) (L.getD (L.length - 1) z98).f0 = false by unfold hasB; rw [hi]; rfl] at a
  rw [hi] at t
  refine ⟨a, t, ?_, h.f.then f (fun i hi hk => by have := h.hp; have := h.hb; rcases hk with rfl | rfl <;> omega), h.hp, h.hb, hpos, h.nd⟩
  refine str_frm h.r f ?_
  rintro j (rfl | rfl) _
  · exact ⟨_, _, b1, by decide⟩
  · exact ⟨_, _, b2, by decide⟩
theorem PD.cell_last {A : Option Addr} {m c : Nat} (h : PD w0 w p b n L (.slice A m c)) : ∃ ad, A = some ad ∧ w.cell? (ad.add (L.length - 1)) = some (.string (L.getD (L.length - 1) z98).f0) := by
  have hpos := h.pos
  obtain ⟨A', c', e, _, hr⟩ := Kd.R_reads h.r
  injection e with e1 e2 e3
  subst e1
  have hr' : Kd.C Kd.string w A (L.map (·.f0)).length (L.map (·.f0)) := hr
  obtain ⟨ad, e, hc⟩ := texts_at hr' (L.length - 1) (by simp; omega)
  refine ⟨ad, e, ?_⟩
  rw [hc]
  congr 2
  unfold strAt
  rw [List.getD_eq_getElem?_getD, List.getElem?_map, List.getElem?_eq_getElem (by omega), getD_at L _ (by omega)]; rfl
theorem PD.cut {A : Option Addr} {c : Nat} (h : PD w0 w p b n L (.slice A L.length c)) : PF w0 w p b n (L.take (L.length - 1)) (.slice A (L.length - 1) c) := by
  have hpos := h.pos
  obtain ⟨inner, hown⟩ := Kd.R_own h.r
  obtain ⟨g, cap, e, _⟩ := hown.form (by rw [List.length_map]; exact hpos)
  injection e with e1 e2 e3
  subst e1
  refine ⟨h.t, ?_, h.f, h.hp, h.hb⟩
  rw [List.map_take]
  exact row_take Value.string (fun _ => rfl) h.r (L.length - 1) (by omega)
end
section
variable {w0 w : World} {p b n m : Nat} {L : List S98} {v : Value}
theorem pf_drop {kk : ByteArray} (h : PF w0 w p b n L v) (hm : L.length = m + 1) (hk : (L.getD m z98).f0 = kk) :
    Calls Try.prog 22 #[.pointer (some ⟨p, 0, none⟩), .string kk] w fun e w' => e = .returned (.bool true) ∧ PD w0 w' p b n L v := by
  have := h.drop_last (by omega) (h.size (L.length - 1) (by omega))
  rwa [show L.length - 1 = m by omega, hk] at this
theorem pd_again {kk : ByteArray} (h : PD w0 w p b n L v) (hm : L.length = m + 1) (hk : (L.getD m z98).f0 = kk) (hs : kk.size ≤ 9223372036854775807) :
    Calls Try.prog 22 #[.pointer (some ⟨p, 0, none⟩), .string kk] w fun e w' => e = .returned (.bool false) ∧ PD w0 w' p b n L v := by
  have := h.again (by rw [show L.length - 1 = m by omega, hk]; exact hs)
  rwa [show L.length - 1 = m by omega, hk] at this
theorem pd_cell {kk : ByteArray} {ad : Addr} {q c : Nat} (h : PD w0 w p b n L (.slice (some ad) q c)) (hm : L.length = m + 1) (hk : (L.getD m z98).f0 = kk) : w.cell? (ad.add m) = some (.string kk) := by
  obtain ⟨ad', e, hc⟩ := h.cell_last
  obtain rfl := Option.some.inj e
  rwa [show L.length - 1 = m by omega, hk] at hc
theorem pd_cut {A : Option Addr} {c : Nat} (h : PD w0 w p b n L (.slice A (m + 1) c)) (hm : L.length = m + 1) : PF w0 w p b n (L.take m) (.slice A (L.take m).length c) := by
  have h' : PD w0 w p b n L (.slice A L.length c) := by rw [hm]; exact h
  have := h'.cut
  rw [show L.length - 1 = m by omega] at this
  rw [show (L.take m).length = m by rw [List.length_take]; omega]
  exact this
theorem pf_room {A : Option Addr} {q c : Nat} (h : PF w0 w p b n L (.slice A q c)) : L.length ≤ c ∧ q = L.length := by
  obtain ⟨A', c', e, hl, _⟩ := Kd.R_reads h.r
  injection e with e1 e2 e3
  subst e3
  rw [List.length_map] at hl e2
  exact ⟨hl, e2⟩
end
end Go.Proofs.Ytjgoddieamphpaa.Obj
