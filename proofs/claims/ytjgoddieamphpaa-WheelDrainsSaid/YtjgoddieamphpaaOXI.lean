/- A part of the proof. -/
import Derived.Test.YtjgoddieamphpaaOXK
namespace Go.Proofs.Ytjgoddieamphpaa.Wh
open Go.RowKit Go.Sort Go.Proofs.YtjgoddieamphpaaW.PrintWords Go.Proofs.YtjgoddieamphpaaW.PrintLast Heap Go.Proofs.Ytjgoddieamphpaa.Obj Go.Proofs.Ytjgoddieamphpaa.PWheelActs
set_option maxRecDepth 100000
set_option linter.unusedVariables false
/-! The wheel beside the document's. -/
theorem kvU_delL (L : List S98) (hn : (L.map (·.f0)).Nodup) (k : ByteArray) : (kvU (delL L k)).Perm (dropK (kvU L) k) := by
  unfold delL
  cases hi : idx L k with
  | some i =>
    obtain ⟨hl, hk⟩ := idx_some hi
    have := kvU_dropAt L hn i hl
    rw [hk] at this
    exact this
  | none =>
    have h := idx_none hi
    show (kvU L).Perm _
    rw [dropK_none]
    intro c hc e
    obtain ⟨d, hd, rfl⟩ := List.mem_map.1 hc
    exact h d hd e
theorem kvU_nodup {K : List KV} {L : List S98} (h : (K.map (·.1)).Nodup) (hp : K.Perm (kvU L)) : (L.map (·.f0)).Nodup := by
  have := (hp.map (·.1)).nodup_iff.1 h
  unfold kvU at this
  rw [List.map_map] at this
  exact this
theorem putW_perm {K : List KV} {L : List S98} (h : (K.map (·.1)).Nodup) (hp : K.Perm (kvU L)) (k : ByteArray) (t : Int) : (dropK K k ++ [(k, t)]).Perm (kvU (putW L k t)) := by
  have h1 := (dropK_perm hp k).trans (kvU_delL L (kvU_nodup h hp) k).symm
  unfold putW kvU
  rw [List.map_append]
  exact h1.append_right _
theorem delL_perm {K : List KV} {L : List S98} (h : (K.map (·.1)).Nodup) (hp : K.Perm (kvU L)) (k : ByteArray) : (dropK K k).Perm (kvU (delL L k)) := (dropK_perm hp k).trans (kvU_delL L (kvU_nodup h hp) k).symm
theorem has_eq {K : List KV} {L : List S98} (hp : K.Perm (kvU L)) (k : ByteArray) : hasB L k = hasK K k := by
  rw [hasK_perm hp]
  unfold hasB
  cases hi : idx L k with
  | some i =>
    obtain ⟨hl, hk⟩ := idx_some hi
    exact (decide_eq_true ⟨ku' L i, ku_mem L i hl, hk⟩).symm
  | none =>
    have h := idx_none hi
    refine (decide_eq_false ?_).symm
    rintro ⟨c, hc, e⟩
    obtain ⟨d, hd, rfl⟩ := List.mem_map.1 hc
    exact h d hd e
theorem at_eq {K : List KV} {L : List S98} (h : (K.map (·.1)).Nodup) (hp : K.Perm (kvU L)) (k : ByteArray) : getU L k = atK K k := by
  unfold getU
  cases hi : idx L k with
  | some i =>
    obtain ⟨hl, hk⟩ := idx_some hi
    have hm : ((L.getD i z98).f0, (L.getD i z98).f2) ∈ K := hp.mem_iff.2 (ku_mem L i hl)
    rw [hk] at hm
    exact (atK_of h hm).symm
  | none =>
    have hne := idx_none hi
    refine (atK_none fun c hc e => ?_).symm
    obtain ⟨d, hd, rfl⟩ := List.mem_map.1 (hp.mem_iff.1 hc)
    exact hne d hd e
structure WA (w0 w : World) (S : Nat → Prop) (p m : Nat) (K : List KV) (L : List S98) : Prop where
  k : WK w S p K
  r : ∃ v, RW w m L v
  f : Frm (fun _ => False) w0 w
  lo : ∀ b, S b → w0.heap.size ≤ b
  hm : w0.heap.size ≤ m
section
variable {w0 w w1 : World} {S S' : Nat → Prop} {p m : Nat} {K K' : List KV} {L L' : List S98}
theorem WA.hm_lt (h : WA w0 w S p m K L) : m < w.heap.size := by obtain ⟨v, hv⟩ := h.r; exact blk_lt hv.hd
theorem WA.m_out (h : WA w0 w S p m K L) : ¬ S m := fun hs => by
  obtain ⟨v, hv⟩ := h.r
  rcases h.k.type m _ _ hs hv.hd with e | e | e <;> cases e
theorem WA.movedK (h : WA w0 w S p m K L) (k' : WK w1 S' p K') (f : Frm S w w1) (hs : ∀ b, S' b → S b ∨ w.heap.size ≤ b) : WA w0 w1 S' p m K' L := by
  obtain ⟨v, hv⟩ := h.r
  refine ⟨k', ⟨v, hv.frm f (fun b cs t hb hc => ?_)⟩, h.f.then f (fun b hb e => by have := h.lo b e; omega), up_lo h.lo h.f.size hs, h.hm⟩
  rcases h.k.type b cs t hb hc with rfl | rfl | rfl <;> exact ⟨by decide, by decide⟩
theorem WA.movedR (h : WA w0 w S p m K L) (r' : ∃ v', RW w1 m L' v') (f : Frm (fun b => b = m) w w1) : WA w0 w1 S p m K L' :=
  ⟨h.k.frm f (fun b hb e => h.m_out (e ▸ hb)), r', h.f.then f (fun b hb e => by have := h.hm; omega), h.lo, h.hm⟩
theorem WA.movedN (h : WA w0 w S p m K L) (f : Frm (fun _ => False) w w1) : WA w0 w1 S p m K L := by
  obtain ⟨v, hv⟩ := h.r
  exact ⟨h.k.frm f (fun _ _ e => e), ⟨v, hv.frm f (fun _ _ _ e => e.elim)⟩, h.f.trans f, h.lo, h.hm⟩
theorem WA.drew (h : WA w0 w S p m K L) : WA w0 w.drew S p m K L := h.movedN ((Frm.refl _ w).drew)
theorem WA.drewN (h : WA w0 w S p m K L) (n : Nat) : WA w0 (w.drewN n) S p m K L := h.movedN ((Frm.refl _ w).drewN n)
/-- A block of another type stays. -/
theorem WA.keepK (h : WA w0 w S p m K L) {xb : Nat} {X : Array Value} (hx : w.heap[xb]? = some (.cells X 53 (0, 0))) (f : Frm S w w1) : w1.heap[xb]? = some (.cells X 53 (0, 0)) :=
  f.blk hx (fun hs => by rcases h.k.type xb _ _ hs hx with e | e | e <;> cases e)
theorem WA.keepR (h : WA w0 w S p m K L) {xb : Nat} {X : Array Value} (hx : w.heap[xb]? = some (.cells X 53 (0, 0))) (f : Frm (fun b => b = m) w w1) : w1.heap[xb]? = some (.cells X 53 (0, 0)) :=
  f.blk hx (fun e => by obtain ⟨v, hv⟩ := h.r; exact blk_ne hx hv.hd (by decide) e)
theorem WA.wput (h : WA w0 w S p m K L) {xb : Nat} {X : Array Value} (hx : w.heap[xb]? = some (.cells X 53 (0, 0))) (k : ByteArray) (hs : k.size ≤ 100) (t : Int) (hl : K.length < 9999) :
    Calls Try.prog 27 #[.pointer (some ⟨p, 0, none⟩), .string k, .int .i64 t] w fun e w' => e = .returned (.tuple #[]) ∧ ∃ S', WA w0 w' S' p m (dropK K k ++ [(k, t)]) L ∧ w'.heap[xb]? = some (.cells X 53 (0, 0)) := by
  refine (h.k.put k (by omega) t hl).mono ?_
  rintro e w' ⟨a, S', h1, h2, h3⟩
  exact ⟨a, S', h.movedK h1 h2 h3, h.keepK hx h2⟩
theorem WA.rput (h : WA w0 w S p m K L) {xb : Nat} {X : Array Value} (hx : w.heap[xb]? = some (.cells X 53 (0, 0))) (k : ByteArray) (t : Int) (hl : L.length < 9999) :
    Calls Try.prog 28 #[.pointer (some ⟨m, 0, none⟩), .string k, .int .i64 t] w fun e w' => e = .returned (.tuple #[]) ∧ WA w0 w' S p m K (putW L k t) ∧ w'.heap[xb]? = some (.cells X 53 (0, 0)) := by
  obtain ⟨v, hv⟩ := h.r
  refine (rwput_any hv k t hl).mono ?_
  rintro e w' ⟨a, h1, h2⟩
  exact ⟨a, h.movedR h1 h2, h.keepR hx h2⟩
theorem WA.wdrop (h : WA w0 w S p m K L) {xb : Nat} {X : Array Value} (hx : w.heap[xb]? = some (.cells X 53 (0, 0))) (k : ByteArray) (hs : k.size ≤ 100) :
    Calls Try.prog 29 #[.pointer (some ⟨p, 0, none⟩), .string k] w fun e w' => e = .returned (.bool (hasK K k)) ∧ ∃ S', WA w0 w' S' p m (dropK K k) L ∧ w'.heap[xb]? = some (.cells X 53 (0, 0)) := by
  refine (h.k.drop k (by omega)).mono ?_
  rintro e w' ⟨a, S', h1, h2, h3⟩
  exact ⟨a, S', h.movedK h1 h2 h3, h.keepK hx h2⟩
theorem WA.rdrop (h : WA w0 w S p m K L) {xb : Nat} {X : Array Value} (hx : w.heap[xb]? = some (.cells X 53 (0, 0))) (k : ByteArray) :
    Calls Try.prog 30 #[.pointer (some ⟨m, 0, none⟩), .string k] w fun e w' => e = .returned (.bool (hasB L k)) ∧ WA w0 w' S p m K (delL L k) ∧ w'.heap[xb]? = some (.cells X 53 (0, 0)) := by
  obtain ⟨v, hv⟩ := h.r
  refine (rdrop_any hv k).mono ?_
  rintro e w' ⟨a, h1, h2⟩
  exact ⟨a, h.movedR h1 h2, h.keepR hx h2⟩
theorem WA.wdue (h : WA w0 w S p m K L) {xb : Nat} {X : Array Value} (hx : w.heap[xb]? = some (.cells X 53 (0, 0))) (now most : Int) :
    Calls Try.prog 32 #[.pointer (some ⟨p, 0, none⟩), .int .i64 now, .int .i64 most] w fun e w' => ∃ A c o K' S', e = .returned (.slice A o.length c) ∧ Kd.R Kd.string 9 w' w.heap.size (fun _ => True) (.slice A o.length c) o ∧ WA w0 w' S' p m K' L ∧ Dues now most.toNat K o K' ∧ w'.heap[xb]? = some (.cells X 53 (0, 0)) ∧ w.heap.size ≤ w'.heap.size := by
  refine (h.k.due now most).mono ?_
  rintro e w' ⟨A, c, o, K', S', a, h1, h2, h3, h4, h5⟩
  exact ⟨A, c, o, K', S', a, h1, h.movedK h2 h3 h4, h5, h.keepK hx h3, h3.size⟩
theorem WA.rdue (h : WA w0 w S p m K L) {xb : Nat} {X : Array Value} (hx : w.heap[xb]? = some (.cells X 53 (0, 0))) (hn : (L.map (·.f0)).Nodup) (now most : Int) :
    Calls Try.prog 33 #[.pointer (some ⟨m, 0, none⟩), .int .i64 now, .int .i64 most] w fun e w' => ∃ A c o L', e = .returned (.slice A o.length c) ∧ Kd.R Kd.string 9 w' w.heap.size (fun _ => True) (.slice A o.length c) o ∧ WA w0 w' S p m K L' ∧ Dues now most.toNat (kvU L) o (kvU L') ∧ L'.length ≤ L.length ∧ w'.heap[xb]? = some (.cells X 53 (0, 0)) ∧ w.heap.size ≤ w'.heap.size := by
  obtain ⟨v, hv⟩ := h.r
  refine (rwdue_any hv hn now most).mono ?_
  rintro e w' ⟨A, c, o, v', L', a, h1, h2, h3, h4, h5, h6⟩
  exact ⟨A, c, o, L', a, h1, h.movedR ⟨v', h2⟩ h5, h6, h4, h.keepR hx h5, h5.size⟩
/-- A row of texts made before stays while the others work. -/
theorem WA.rowR (h : WA w0 w S p m K L) {base : Nat} {v : Value} {o : List ByteArray} (hr : Kd.R Kd.string 9 w base (fun _ => True) v o) (hb : m < base) (f : Frm (fun b => b = m) w w1) : Kd.R Kd.string 9 w1 base (fun _ => True) v o :=
  rowS_frm hr f (fun b e => by subst e; exact hb)
theorem WA.rowK (h : WA w0 w S p m K L) {base : Nat} {v : Value} {o : List ByteArray} (hr : Kd.R Kd.string 9 w base (fun _ => True) v o) (hb : ∀ b, S b → b < base) (f : Frm S w w1) : Kd.R Kd.string 9 w1 base (fun _ => True) v o :=
  rowS_frm hr f hb
theorem WA.wat (h : WA w0 w S p m K L) (k : ByteArray) (hs : k.size ≤ 100) : Calls Try.prog 36 #[.pointer (some ⟨p, 0, none⟩), .string k] w fun e w' => e = .returned (.tuple #[.int .i64 (atK K k), .bool (hasK K k)]) ∧ w = w' := h.k.at_ k (by omega)
theorem WA.rat (h : WA w0 w S p m K L) {xb : Nat} {X : Array Value} (hx : w.heap[xb]? = some (.cells X 53 (0, 0))) (hp : K.Perm (kvU L)) (k : ByteArray) : Calls Try.prog 37 #[.pointer (some ⟨m, 0, none⟩), .string k] w fun e w' => e = .returned (.tuple #[.int .i64 (atK K k), .bool (hasK K k)]) ∧ WA w0 w' S p m K L ∧ w'.heap[xb]? = some (.cells X 53 (0, 0)) := by
  obtain ⟨v, hv⟩ := h.r
  refine (rwat_any hv k).mono ?_
  rintro e w' ⟨a, n, rfl⟩
  rw [at_eq h.k.nodup hp, has_eq hp] at a
  exact ⟨a, h.drewN n, hx⟩
/-- What Next tells. -/
def nextK (K : List KV) (a : ByteArray) (t : Int) (b : Bool) : Prop := (K.length = 0 ∧ a = ⟨#[]⟩ ∧ t = 0 ∧ b = false) ∨ (IsFirst K (a, t) ∧ b = true)
theorem ex_next {w : World} {K : List KV} {S : Nat → Prop} {p : Nat} (h : WK w S p K) : ∃ a t b, nextK K a t b := by
  obtain ⟨mb, v, xs, D, h1, h2, h3⟩ := h
  by_cases h0 : K.length = 0
  · exact ⟨_, _, _, .inl ⟨h0, rfl, rfl, rfl⟩⟩
  · have h4 : 0 < xs.length := by
      have := h2.length_eq
      unfold kv at this
      rw [List.length_map] at this
      omega
    have hf := first_is h1 h4
    exact ⟨(el z0 xs 0).2.1, (el z0 xs 0).2.2, true, .inr ⟨⟨h2.mem_iff.1 hf.1, fun y hy => hf.2 y (h2.mem_iff.2 hy)⟩, rfl⟩⟩
theorem WA.wnext (h : WA w0 w S p m K L) {xb : Nat} {X : Array Value} (hx : w.heap[xb]? = some (.cells X 53 (0, 0))) {a : ByteArray} {t : Int} {b : Bool} (hk : nextK K a t b) : Calls Try.prog 34 #[.pointer (some ⟨p, 0, none⟩)] w fun e w' => e = .returned (.tuple #[.string a, .int .i64 t, .bool b]) ∧ WA w0 w' S p m K L ∧ w'.heap[xb]? = some (.cells X 53 (0, 0)) := by
  rcases hk with ⟨h0, rfl, rfl, rfl⟩ | ⟨hf, rfl⟩
  · refine (h.k.next_none h0).mono ?_
    rintro e w' ⟨a, n, rfl⟩
    exact ⟨a, h.drewN n, hx⟩
  · refine (h.k.next_some _ hf).mono ?_
    rintro e w' ⟨a, n, rfl⟩
    exact ⟨a, h.drewN n, hx⟩
theorem WA.rnext (h : WA w0 w S p m K L) {xb : Nat} {X : Array Value} (hx : w.heap[xb]? = some (.cells X 53 (0, 0))) (hp : K.Perm (kvU L)) {a : ByteArray} {t : Int} {b : Bool} (hk : nextK K a t b) : Calls Try.prog 35 #[.pointer (some ⟨m, 0, none⟩)] w fun e w' => e = .returned (.tuple #[.string a, .int .i64 t, .bool b]) ∧ WA w0 w' S p m K L ∧ w'.heap[xb]? = some (.cells X 53 (0, 0)) := by
  obtain ⟨v, hv⟩ := h.r
  have hl : L.length = K.length := by rw [hp.length_eq]; unfold kvU; rw [List.length_map]
  rcases hk with ⟨h0, rfl, rfl, rfl⟩ | ⟨hf, rfl⟩
  · obtain rfl : L = [] := List.eq_nil_of_length_eq_zero (by omega)
    refine (rwnext_none hv).mono ?_
    rintro e w' ⟨a, _, c⟩
    exact ⟨a, h.movedN c, c.blk hx (fun e => e)⟩
  · have := List.length_pos_of_mem hf.1
    refine (rwnext_some hv (by omega)).mono ?_
    rintro e w' ⟨x, hx2, a2, _, c⟩
    obtain rfl : x = (a, t) := hx2.uniq hf hp.symm
    exact ⟨a2, h.movedN c, c.blk hx (fun e => e)⟩
end
theorem texts_l0 (l : List ByteArray) (hN : l.length ≤ 1000000) : ∀ d i k, l.length = i + d → d < k → turncockref1_Texts.l0 k l l (i : Int) = some true
  | 0, i, k, hd, hk => by
    obtain ⟨k, rfl⟩ : ∃ m, k = m + 1 := ⟨k - 1, by omega⟩
    simp only [turncockref1_Texts.l0]
    rw [if_neg (by omega)]
  | d + 1, i, k, hd, hk => by
    obtain ⟨k, rfl⟩ : ∃ m, k = m + 1 := ⟨k - 1, by omega⟩
    simp only [turncockref1_Texts.l0]
    rw [if_pos (by omega), if_pos (by omega), if_pos (by omega), if_pos trivial, show wrap64 ((i : Int) + 1) = ((i + 1 : Nat) : Int) from by unfold wrap64; omega]
    exact texts_l0 l hN d (i + 1) k (by omega) (by omega)
theorem texts_same {w : World} {b1 b2 : Nat} {A1 A2 : Option Addr} {c1 c2 : Nat} {X : List ByteArray} (hN : X.length ≤ 1000000) (h1 : Kd.R Kd.string 9 w b1 (fun _ => True) (.slice A1 X.length c1) X) (h2 : Kd.R Kd.string 9 w b2 (fun _ => True) (.slice A2 X.length c2) X) :
    Calls Try.prog 31 #[.slice A1 X.length c1, .slice A2 X.length c2] w fun e w' => e = .returned (.bool true) ∧ ∃ n, w' = w.drewN n := by
  have q1 := Kd.R_reads' h1
  have q2 := Kd.R_reads' h2
  refine (turncockref1_Texts.calls (X.length + 1) A1 c1 X A2 c2 X true w q1.2.2 q1.2.1 q2.2.2 q2.2.1 (by unfold turncockref1_Texts.f; rw [if_pos rfl]; exact texts_l0 X hN X.length 0 _ (by omega) (by omega))).mono ?_
  rintro e w' ⟨a, n, hn⟩
  exact ⟨a, n, hn⟩
end Go.Proofs.Ytjgoddieamphpaa.Wh
