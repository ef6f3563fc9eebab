/- A wheel beside the document's. -/
import Derived.Test.YtjgoddieamphpaaMC
namespace Go.Proofs.Ytjgoddieamphpaa.Wh
open Go.RowKit Go.Sort Go.Proofs.YtjgoddieamphpaaW.PrintWords Go.Proofs.YtjgoddieamphpaaW.PrintLast Heap Go.Proofs.Ytjgoddieamphpaa.Obj Go.Proofs.Ytjgoddieamphpaa.PWheelActs
set_option maxRecDepth 100000
set_option linter.unusedVariables false
/-! The wheel beside the document's. -/
theorem kvU_delL (L : List S98) (hn : (L.map (·.f0)).Nodup) (k : ByteArray) : (kvU (delL L k)).Perm (dropK (kvU L) k) := by
  unfold delL
  cases hi : idx L k with
  | some i =>
    obtain ⟨hl, hk⟩ := idx_some hi
    have := kvU_dropAt L hn i hl
    rw [hk] at this
    exact this
  | none =>
    have h := idx_none hi
    show (kvU L).Perm _
    rw [dropK_none]
    intro c hc e
    obtain ⟨d, hd, rfl⟩ := List.mem_map.1 hc
    exact h d hd e
theorem kvU_nodup {K : List KV} {L : List S98} (h : (K.map (·.1)).Nodup) (hp : K.Perm (kvU L)) : (L.map (·.f0)).Nodup := by
  have := (hp.map (·.1)).nodup_iff.1 h
  unfold kvU at this
  rw [List.map_map] at this
  exact this
theorem putW_perm {K : List KV} {L : List S98} (h : (K.map (·.1)).Nodup) (hp : K.Perm (kvU L)) (k : ByteArray) (t : Int) : (dropK K k ++ [(k, t)]).Perm (kvU (putW L k t)) := by
  have h1 := (dropK_perm hp k).trans (kvU_delL L (kvU_nodup h hp) k).symm
  unfold putW kvU
  rw [List.map_append]
  exact h1.append_right _
theorem delL_perm {K : List KV} {L : List S98} (h : (K.map (·.1)).Nodup) (hp : K.Perm (kvU L)) (k : ByteArray) : (dropK K k).Perm (kvU (delL L k)) := (dropK_perm hp k).trans (kvU_delL L (kvU_nodup h hp) k).symm
theorem has_eq {K : List KV} {L : List S98} (hp : K.Perm (kvU L)) (k : ByteArray) : hasB L k = hasK K k := by
  rw [hasK_perm hp]
  unfold hasB
  cases hi : idx L k with
  | some i =>
    obtain ⟨hl, hk⟩ := idx_some hi
    exact (decide_eq_true ⟨ku' L i, ku_mem L i hl, hk⟩).symm
  | none =>
    have h := idx_none hi
    refine (decide_eq_false ?_).symm
    rintro ⟨c, hc, e⟩
    obtain ⟨d, hd, rfl⟩ := List.mem_map.1 hc
    exact h d hd e
theorem at_eq {K : List KV} {L : List S98} (h : (K.map (·.1)).Nodup) (hp : K.Perm (kvU L)) (k : ByteArray) : getU L k = atK K k := by
  unfold getU
  cases hi : idx L k with
  | some i =>
    obtain ⟨hl, hk⟩ := idx_some hi
    have hm : ((L.getD i z98).f0, (L.getD i z98).f2) ∈ K := hp.mem_iff.2 (ku_mem L i hl)
    rw [hk] at hm
    exact (atK_of h hm).symm
  | none =>
    have hne := idx_none hi
    refine (atK_none fun c hc e => ?_).symm
    obtain ⟨d, hd, rfl⟩ := List.mem_map.1 (hp.mem_iff.1 hc)
    exact hne d hd e
structure WA (w0 w : World) (S : Nat → Prop) (p m : Nat) (K : List KV) (L : List S98) : Prop where
  k : WK w S p K
  r : ∃ v, RW w m L v
  f : Frm (fun _ => False) w0 w
  lo : ∀ b, S b → w0.heap.size ≤ b
  hm : w0.heap.size ≤ m
section
variable {w0 w w1 : World} {S S' : Nat → Prop} {p m : Nat} {K K' : List KV} {L L' : List S98}
theorem WA.hm_lt (h : WA w0 w S p m K L) : m < w.heap.size := by obtain ⟨v, hv⟩ := h.r; exact blk_lt hv.hd
theorem WA.m_out (h : WA w0 w S p m K L) : ¬ S m := fun hs => by
  obtain ⟨v, hv⟩ := h.r
  rcases h.k.type m _ _ hs hv.hd with e | e | e <;> cases e
theorem WA.movedK (h : WA w0 w S p m K L) (k' : WK w1 S' p K') (f : Frm S w w1) (hs : ∀ b, S' b → S b ∨ w.heap.size ≤ b) : WA w0 w1 S' p m K' L := by
  obtain ⟨v, hv⟩ := h.r
  refine ⟨k', ⟨v, hv.frm f (fun b cs t hb hc => ?_)⟩, h.f.then f (fun b hb e => by have := h.lo b e; omega), up_lo h.lo h.f.size hs, h.hm⟩
  rcases h.k.type b cs t hb hc with rfl | rfl | rfl <;> exact ⟨by decide, by decide⟩
theorem WA.movedR (h : WA w0 w S p m K L) (r' : ∃ v', RW w1 m L' v') (f : Frm (fun b => b = m) w w1) : WA w0 w1 S p m K L' :=
  ⟨h.k.frm f (fun b hb e => h.m_out (e ▸ hb)), r', h.f.then f (fun b hb e => by have := h.hm; omega), h.lo, h.hm⟩
theorem WA.movedN (h : WA w0 w S p m K L) (f : Frm (fun _ => False) w w1) : WA w0 w1 S p m K L := by
  obtain ⟨v, hv⟩ := h.r
  exact ⟨h.k.frm f (fun _ _ e => e), ⟨v, hv.frm f (fun _ _ _ e => e.elim)⟩, h.f.trans f, h.lo, h.hm⟩
theorem WA.drew (h : WA w0 w S p m K L) : WA w0 w.drew S p m K L := h.movedN ((Frm.refl _ w).drew)
theorem WA.drewN (h : WA w0 w S p m K L) (n : Nat) : WA w0 (w.drewN n) S p m K L := h.movedN ((Frm.refl _ w).drewN n)
/-- A block of another type stays. -/
theorem WA.keepK (h : WA w0 w S p m K L) {xb : Nat} {X : Array Value} (hx : w.heap[xb]? = some (.cells X 53 (0, 0))) (f : Frm S w w1) : w1.heap[xb]? = some (.cells X 53 (0, 0)) :=
  f.blk hx (fun hs => by rcases h.k.type xb _ _ hs hx with e | e | e <;> cases e)
theorem WA.keepR (h : WA w0 w S p m K L) {xb : Nat} {X : Array Value} (hx : w.heap[xb]? = some (.cells X 53 (0, 0))) (f : Frm (fun b => b = m) w w1) : w1.heap[xb]? = some (.cells X 53 (0, 0)) :=
  f.blk hx (fun e => by obtain ⟨v, hv⟩ := h.r; exact blk_ne hx hv.hd (by decide) e)
theorem WA.wput (h : WA w0 w S p m K L) {xb : Nat} {X : Array Value} (hx : w.heap[xb]? = some (.cells X 53 (0, 0))) (k : ByteArray) (hs : k.size ≤ 100) (t : Int) (hl : K.length < 9999) :
    Calls Try.prog 27 #[.pointer (some ⟨p, 0, none⟩), .string k, .int .i64 t] w fun e w' => e = .returned (.tuple #[]) ∧ ∃ S', WA w0 w' S' p m (dropK K k ++ [(k, t)]) L ∧ w'.heap[xb]? = some (.cells X 53 (0, 0)) := by
  refine (h.k.put k (by omega) t hl).mono ?_
  rintro e w' ⟨a, S', h1, h2, h3⟩
  exact ⟨a, S', h.movedK h1 h2 h3, h.keepK hx h2⟩
theorem WA.rput (h : WA w0 w S p m K L) {xb : Nat} {X : Array Value} (hx : w.heap[xb]? = some (.cells X 53 (0, 0))) (k : ByteArray) (t : Int) (hl : L.length < 9999) :
    Calls Try.prog 28 #[.pointer (some ⟨m, 0, none⟩), .string k, .int .i64 t] w fun e w' => e = .returned (.tuple #[]) ∧ WA w0 w' S p m K (putW L k t) ∧ w'.heap[xb]? = some (.cells X 53 (0, 0)) := by
  obtain ⟨v, hv⟩ := h.r
  refine (rwput_any hv k t hl).mono ?_
  rintro e w' ⟨a, h1, h2⟩
  exact ⟨a, h.movedR h1 h2, h.keepR hx h2⟩
theorem WA.wdrop (h : WA w0 w S p m K L) {xb : Nat} {X : Array Value} (hx : w.heap[xb]? = some (.cells X 53 (0, 0))) (k : ByteArray) (hs : k.size ≤ 100) :
    Calls Try.prog 29 #[.pointer (some ⟨p, 0, none⟩), .string k] w fun e w' => e = .returned (.bool (hasK K k)) ∧ ∃ S', WA w0 w' S' p m (dropK K k) L ∧ w'.heap[xb]? = some (.cells X 53 (0, 0)) := by
  refine (h.k.drop k (by omega)).mono ?_
  rintro e w' ⟨a, S', h1, h2, h3⟩
  exact ⟨a, S', h.movedK h1 h2 h3, h.keepK hx h2⟩
theorem WA.rdrop (h : WA w0 w S p m K L) {xb : Nat} {X : Array Value} (hx : w.heap[xb]? = some (.cells X 53 (0, 0))) (k : ByteArray) :
    Calls Try.prog 30 #[.pointer (some ⟨m, 0, none⟩), .string k] w fun e w' => e = .returned (.bool (hasB L k)) ∧ WA w0 w' S p m K (delL L k) ∧ w'.heap[xb]? = some (.cells X 53 (0, 0)) := by
  obtain ⟨v, hv⟩ := h.r
  refine (rdrop_any hv k).mono ?_
  rintro e w' ⟨a, h1, h2⟩
  exact ⟨a, h.movedR h1 h2, h.keepR hx h2⟩
theorem WA.wdue (h : WA w0 w S p m K L) {xb : Nat} {X : Array Value} (hx : w.heap[xb]? = some (.cells X 53 (0, 0))) (now most : Int) :
    Calls Try.prog 32 #[.pointer (some ⟨p, 0, none⟩), .int .i64 now, .int .i64 most] w fun e w' => ∃ A c o K' S', e = .returned (.slice A o.length c) ∧ Kd.R Kd.string 9 w' w.heap.size (fun _ => True) (.slice A o.length c) o ∧ WA w0 w' S' p m K' L ∧ Dues now most.toNat K o K' ∧ w'.heap[xb]? = some (.cells X 53 (0, 0)) ∧ w.heap.size ≤ w'.heap.size := by
  refine (h.k.due now most).mono ?_
  rintro e w' ⟨A, c, o, K', S', a, h1, h2, h3, h4, h5⟩
  exact ⟨A, c, o, K', S', a, h1, h.movedK h2 h3 h4, h5, h.keepK hx h3, h3.size⟩
theorem WA.rdue (h : WA w0 w S p m K L) {xb : Nat} {X : Array Value} (hx : w.heap[xb]? = some (.cells X 53 (0, 0))) (hn : (L.map (·.f0)).Nodup) (now most : Int) :
    Calls Try.prog 33 #[.pointer (some ⟨m, 0, none⟩), .int .i64 now, .int .i64 most] w fun e w' => ∃ A c o L', e = .returned (.slice A o.length c) ∧ Kd.R Kd.string 9 w' w.heap.size (fun _ => True) (.slice A o.length c) o ∧ WA w0 w' S p m K L' ∧ Dues now most.toNat (kvU L) o (kvU L') ∧ L'.length ≤ L.length ∧ w'.heap[xb]? = some (.cells X 53 (0, 0)) ∧ w.heap.size ≤ w'.heap.size := by
  obtain ⟨v, hv⟩ := h.r
  refine (rwdue_any hv hn now most).mono ?_
  rintro e w' ⟨A, c, o, v', L', a, h1, h2, h3, h4, h5, h6⟩
  exact ⟨A, c, o, L', a, h1, h.movedR ⟨v', h2⟩ h5, h6, h4, h.keepR hx h5, h5.size⟩
/-- A row of texts made before stays while the others work. -/
theorem WA.rowR (h : WA w0 w S p m K L) {base : Nat} {v : Value} {o : List ByteArray} (hr : Kd.R Kd.string 9 w base (fun _ => True) v o) (hb : m < base) (f : Frm (fun b => b = m) w w1) : Kd.R Kd.string 9 w1 base (fun _ => True) v o :=
  rowS_frm hr f (fun b e => by subst e; exact hb)
theorem WA.rowK (h : WA w0 w S p m K L) {base : Nat} {v : Value} {o : List ByteArray} (hr : Kd.R Kd.string 9 w base (fun _ => True) v o) (hb : ∀ b, S b → b < base) (f : Frm S w w1) : Kd.R Kd.string 9 w1 base (fun _ => True) v o :=
  rowS_frm hr f hb
theorem WA.wat (h : WA w0 w S p m K L) (k : ByteArray) (hs : k.size ≤ 100) : Calls Try.prog 36 #[.pointer (some ⟨p, 0, none⟩), .string k] w fun e w' => e = .returned (.tuple #[.int .i64 (atK K k), .bool (hasK K k)]) ∧ w = w' := h.k.at_ k (by omega)
theorem WA.rat (h : WA w0 w S p m K L) {xb : Nat} {X : Array Value} (hx : w.heap[xb]? = some (.cells X 53 (0, 0))) (hp : K.Perm (kvU L)) (k : ByteArray) : Calls Try.prog 37 #[.pointer (some ⟨m, 0, none⟩), .string k] w fun e w' => e = .returned (.tuple #[.int .i64 (atK K k), .bool (hasK K k)]) ∧ WA w0 w' S p m K L ∧ w'.heap[xb]? = some (.cells X 53 (0, 0)) := by
  obtain ⟨v, hv⟩ := h.r
  refine (rwat_any hv k).mono ?_
  rintro e w' ⟨a, n, rfl⟩
  rw [at_eq h.k.nodup hp, has_eq hp] at a
  exact ⟨a, h.drewN n, hx⟩
/-- What Next tells. -/
def nextK (K : List KV) (a : ByteArray) (t : Int) (b : Bool) : Prop := (K.length = 0 ∧ a = ⟨#[]⟩ ∧ t = 0 ∧ b = false) ∨ (IsFirst K (a, t) ∧ b = true)
theorem ex_next {w : World} {K : List KV} {S : Nat → Prop} {p : Nat} (h : WK w S p K) : ∃ a t b, nextK K a t b := by
  obtain ⟨mb, v, xs, D, h1, h2, h3⟩ := h
  by_cases h0 : K.length = 0
  · exact ⟨_, _, _, .inl ⟨h0, rfl, rfl, rfl⟩⟩
  · have h4 : 0 < xs.length := by
      have := h2.length_eq
      unfold kv at this
      rw [List.length_map] at this
      omega
    have hf := first_is h1 h4
    exact ⟨(el z0 xs 0).2.1, (el z0 xs 0).2.2, true, .inr ⟨⟨h2.mem_iff.1 hf.1, fun y hy => hf.2 y (h2.mem_iff.2 hy)⟩, rfl⟩⟩
theorem WA.wnext (h : WA w0 w S p m K L) {xb : Nat} {X : Array Value} (hx : w.heap[xb]? = some (.cells X 53 (0, 0))) {a : ByteArray} {t : Int} {b : Bool} (hk : nextK K a t b) : Calls Try.prog 34 #[.pointer (some ⟨p, 0, none⟩)] w fun e w' => e = .returned (.tuple #[.string a, .int .i64 t, .bool b]) ∧ WA w0 w' S p m K L ∧ w'.heap[xb]? = some (.cells X 53 (0, 0)) := by
  rcases hk with ⟨h0, rfl, rfl, rfl⟩ | ⟨hf, rfl⟩
  · refine (h.k.next_none h0).mono ?_
    rintro e w' ⟨a, n, rfl⟩
    exact ⟨a, h.drewN n, hx⟩
  · refine (h.k.next_some _ hf).mono ?_
    rintro e w' ⟨a, n, rfl⟩
    exact ⟨a, h.drewN n, hx⟩
theorem WA.rnext (h : WA w0 w S p m K L) {xb : Nat} {X : Array Value} (hx : w.heap[xb]? = some (.cells X 53 (0, 0))) (hp : K.Perm (kvU L)) {a : ByteArray} {t : Int} {b : Bool} (hk : nextK K a t b) : Calls Try.prog 35 #[.pointer (some ⟨m, 0, none⟩)] w fun e w' => e = .returned (.tuple #[.string a, .int .i64 t, .bool b]) ∧ WA w0 w' S p m K L ∧ w'.heap[xb]? = some (.cells X 53 (0, 0)) := by
  obtain ⟨v, hv⟩ := h.r
  have hl : L.length = K.length := by rw [hp.length_eq]; unfold kvU; rw [List.length_map]
  rcases hk with ⟨h0, rfl, rfl, rfl⟩ | ⟨hf, rfl⟩
  · obtain rfl : L = [] := List.eq_nil_of_length_eq_zero (by omega)
    refine (rwnext_none hv).mono ?_
    rintro e w' ⟨a, _, c⟩
    exact ⟨a, h.movedN c, c.blk hx (fun e => e)⟩
  · have := List.length_pos_of_mem hf.1
    refine (rwnext_some hv (by omega)).mono ?_
    rintro e w' ⟨x, hx2, a2, _, c⟩
    obtain rfl : x = (a, t) := hx2.uniq hf hp.symm
    exact ⟨a2, h.movedN c, c.blk hx (fun e => e)⟩
end
theorem texts_l0 (l : List ByteArray) (hN : l.length ≤ 1000000) : ∀ d i k, l.length = i + d → d < k → turncockref1_Texts.l0 k l l (i : Int) = some true
  | 0, i, k, hd, hk => by
    obtain ⟨k, rfl⟩ : ∃ m, k = m + 1 := ⟨k - 1, by omega⟩
    simp only [turncockref1_Texts.l0]
    rw [if_neg (by omega)]
  | d + 1, i, k, hd, hk => by
    obtain ⟨k, rfl⟩ : ∃ m, k = m + 1 := ⟨k - 1, by omega⟩
    simp only [turncockref1_Texts.l0]
    rw [if_pos (by omega), if_pos (by omega), if_pos (by omega), if_pos trivial, show wrap64 ((i : Int) + 1) = ((i + 1 : Nat) : Int) from by unfold wrap64; omega]
    exact texts_l0 l hN d (i + 1) k (by omega) (by omega)
theorem texts_same {w : World} {b1 b2 : Nat} {A1 A2 : Option Addr} {c1 c2 : Nat} {X : List ByteArray} (hN : X.length ≤ 1000000) (h1 : Kd.R Kd.string 9 w b1 (fun _ => True) (.slice A1 X.length c1) X) (h2 : Kd.R Kd.string 9 w b2 (fun _ => True) (.slice A2 X.length c2) X) :
    Calls Try.prog 31 #[.slice A1 X.length c1, .slice A2 X.length c2] w fun e w' => e = .returned (.bool true) ∧ ∃ n, w' = w.drewN n := by
  have q1 := Kd.R_reads' h1
  have q2 := Kd.R_reads' h2
  refine (turncockref1_Texts.calls (X.length + 1) A1 c1 X A2 c2 X true w q1.2.2 q1.2.1 q2.2.2 q2.2.1 (by unfold turncockref1_Texts.f; rw [if_pos rfl]; exact texts_l0 X hN X.length 0 _ (by omega) (by omega))).mono ?_
  rintro e w' ⟨a, n, hn⟩
  exact ⟨a, n, hn⟩
end Go.Proofs.Ytjgoddieamphpaa.Wh
namespace Go.Proofs.Ytjgoddieamphpaa.Wh
open Go.RowKit Go.Sort Go.Proofs.YtjgoddieamphpaaW.PrintWords Go.Proofs.YtjgoddieamphpaaW.PrintLast Heap Go.Proofs.Ytjgoddieamphpaa.Obj Go.Proofs.Ytjgoddieamphpaa.PWheelActs
set_option maxRecDepth 100000
set_option linter.unusedVariables false
theorem ex_first : ∀ K : List KV, 0 < K.length → ∃ x, IsFirst K x
  | [], h => by cases h
  | [c], _ => ⟨c, by simp, fun y hy => by obtain rfl := List.mem_singleton.1 hy; exact lessK_irr _⟩
  | c :: d :: K, _ => by
    obtain ⟨x, h1, h2⟩ := ex_first (d :: K) (by simp)
    cases hl : lessK c x with
    | true =>
      refine ⟨c, by simp, fun y hy => ?_⟩
      rcases List.mem_cons.1 hy with rfl | hy
      · exact lessK_irr _
      · have h3 := h2 y hy
        have h4 : lessK x c = false := by
          cases e : lessK x c with
          | false => rfl
          | true => have := lessK_tr _ _ _ hl e; rw [lessK_irr] at this; cases this
        exact lessK_ntr _ _ _ h3 h4
    | false =>
      refine ⟨x, List.mem_cons_of_mem _ h1, fun y hy => ?_⟩
      rcases List.mem_cons.1 hy with rfl | hy
      · exact hl
      · exact h2 y hy
theorem ex_dues (now : Int) : ∀ (m : Nat) (K : List KV), ∃ o K1, Dues now m K o K1
  | 0, K => ⟨[], K, .full K⟩
  | m + 1, K => by
    by_cases h0 : 0 < K.length
    · obtain ⟨x, hx⟩ := ex_first K h0
      by_cases hd : now < x.2
      · exact ⟨[], K, .later m K x hx hd⟩
      · obtain ⟨o, K1, h⟩ := ex_dues now m (dropK K x.1)
        exact ⟨x.1 :: o, K1, .one m K _ K1 x o hx (by omega) (List.Perm.refl _) h⟩
    · have : K = [] := List.eq_nil_of_length_eq_zero (by omega)
      subst this
      exact ⟨[], [], .none m⟩
theorem dropK_lt {K : List KV} {x : KV} (h : x ∈ K) : (dropK K x.1).length < K.length := by
  unfold dropK
  exact List.length_filter_lt_length_iff_exists.2 ⟨x, h, by simp⟩
theorem Dues.len {now : Int} {m : Nat} {K K1 : List KV} {o : List ByteArray} (h : Dues now m K o K1) : o.length + K1.length ≤ K.length := by
  induction h with
  | full => simp
  | none => simp
  | later => simp
  | one m K K1 K2 x out h1 h2 h3 h4 ih =>
    have := h3.length_eq
    have := dropK_lt h1.1
    simp
    omega
theorem dropK_len (K : List KV) (k : ByteArray) : (dropK K k).length ≤ K.length := List.length_filter_le _ _
theorem putW_len (L : List S98) (k : ByteArray) (t : Int) : (putW L k t).length ≤ L.length + 1 := by
  unfold putW; rw [List.length_append]; have := delL_len L k; simp; omega
section
variable {w0 w w1 : World} {S S' : Nat → Prop} {p m : Nat} {K K' K1 : List KV} {L L' : List S98}
theorem WA.wlen (h : WA w0 w S p m K L) (hp : K.Perm (kvU L)) : Calls Try.prog 38 #[.pointer (some ⟨p, 0, none⟩)] w fun e w' => e = .returned (.int .i64 (L.length : Nat)) ∧ w = w' := by
  have hl : L.length = K.length := by rw [hp.length_eq]; unfold kvU; rw [List.length_map]
  rw [hl]; exact h.k.len
theorem WA.rdropB (h : WA w0 w S p m K L) {xb : Nat} {X : Array Value} (hx : w.heap[xb]? = some (.cells X 53 (0, 0))) (k : ByteArray) {B : Bool} (hb : hasB L k = B) :
    Calls Try.prog 30 #[.pointer (some ⟨m, 0, none⟩), .string k] w fun e w' => e = .returned (.bool B) ∧ WA w0 w' S p m K (delL L k) ∧ w'.heap[xb]? = some (.cells X 53 (0, 0)) := by
  subst hb; exact h.rdrop hx k
theorem WA.wdueD (h : WA w0 w S p m K L) {xb : Nat} {X : Array Value} (hx : w.heap[xb]? = some (.cells X 53 (0, 0))) {now most : Int} {o : List ByteArray} (hd : Dues now most.toNat K o K1) :
    Calls Try.prog 32 #[.pointer (some ⟨p, 0, none⟩), .int .i64 now, .int .i64 most] w fun e w' => ∃ A c S', e = .returned (.slice A o.length c) ∧ Kd.R Kd.string 9 w' w.heap.size (fun _ => True) (.slice A o.length c) o ∧ WA w0 w' S' p m K1 L ∧ Frm S w w' ∧ w'.heap[xb]? = some (.cells X 53 (0, 0)) := by
  refine (h.k.due now most).mono ?_
  rintro e w' ⟨A, c, o', K', S', a, h1, h2, h3, h4, h5⟩
  obtain ⟨rfl, hp⟩ := h5.uniq hd (List.Perm.refl _)
  exact ⟨A, c, S', a, h1, h.movedK (h2.perm hp) h3 h4, h3, h.keepK hx h3⟩
theorem WA.rdueD (h : WA w0 w S p m K L) {xb : Nat} {X : Array Value} (hx : w.heap[xb]? = some (.cells X 53 (0, 0))) (hn : (L.map (·.f0)).Nodup) {now most : Int} {o : List ByteArray} {K0 : List KV} (hd : Dues now most.toNat K0 o K1) (hp : K0.Perm (kvU L)) :
    Calls Try.prog 33 #[.pointer (some ⟨m, 0, none⟩), .int .i64 now, .int .i64 most] w fun e w' => ∃ A c L', e = .returned (.slice A o.length c) ∧ Kd.R Kd.string 9 w' w.heap.size (fun _ => True) (.slice A o.length c) o ∧ WA w0 w' S p m K L' ∧ K1.Perm (kvU L') ∧ L'.length ≤ L.length ∧ Frm (fun b => b = m) w w' ∧ w'.heap[xb]? = some (.cells X 53 (0, 0)) := by
  obtain ⟨v, hv⟩ := h.r
  refine (rwdue_any hv hn now most).mono ?_
  rintro e w' ⟨A, c, o', v', L', a, h1, h2, h3, h4, h5, h6⟩
  obtain ⟨rfl, hp2⟩ := hd.uniq h6 hp
  exact ⟨A, c, L', a, h1, h.movedR ⟨v', h2⟩ h5, hp2, h4, h5, h.keepR hx h5⟩
end
end Go.Proofs.Ytjgoddieamphpaa.Wh
namespace Go.Proofs.Ytjgoddieamphpaa.Wh
open Go.RowKit Go.Sort Go.Proofs.YtjgoddieamphpaaW.PrintWords Go.Proofs.YtjgoddieamphpaaW.PrintLast Heap Go.Proofs.Ytjgoddieamphpaa.Obj Go.Proofs.Ytjgoddieamphpaa.PWheelActs
set_option maxRecDepth 100000
set_option linter.unusedVariables false
def intAt (l : List Int) (i : Nat) : Int := l.getD i 0
theorem ints_at {w : World} {A : Option Addr} {l : List Int} (h : Kd.C (Kd.int .i64) w A l.length l) (i : Nat) (hi : i < l.length) : ∃ ad, A = some ad ∧ w.cell? (ad.add i) = some (.int .i64 (intAt l i)) := by
  obtain ⟨ad, c, e, _, hK, hc0⟩ := Kd.C_get h (0 : Int) (i : Int) (by omega) (by omega)
  have hK' : c = [.int .i64 (l.getD (i : Int).toNat 0)] := hK
  subst hK'
  refine ⟨ad, e, ?_⟩
  have := hc0 0 _ rfl
  rw [Int.toNat_natCast] at this
  have e1 : i * (Kd.int .i64).sz + 0 = i := by show i * 1 + 0 = i; omega
  rw [e1] at this
  exact this
theorem wl_out (key : ByteArray) (A : Option Addr) (c : Nat) (n : Nat) (other : ByteArray) (w : World) (h : n < 1 ∨ 50 < n ∨ 200 < key.size ∨ 200 < other.size ∨ key = other) :
    Calls Try.prog 7 #[.string key, .slice A n c, .string other] w fun e w' => e = .returned (.bool true) ∧ Frm (fun _ => False) w w' := by
  by_cases a1 : n < 1
  · have d1 : decide ((n : Int) < 1) = true := decide_eq_true (by omega)
    have d2 : decide (n < 1) = true := decide_eq_true a1
    have d3 : decide (n = 0) = true := decide_eq_true (by omega)
    clear h a1
    go_enter Try.func7, Try.ntmps7
    go_wp2_with fail
    (with_reducible refine (wawake_any _).mono ?_); rintro e w3 ⟨rfl, hf3⟩
    have HF3 := Aside0.mk hf3
    clear hf3
    go_wp2
    go_ret
    exact ⟨rfl, HF3.out⟩
  have d1 : decide ((n : Int) < 1) = false := decide_eq_false (by omega)
  by_cases a2 : 50 < n
  · have e1 : decide ((50 : Int) < (n : Int)) = true := decide_eq_true (by omega)
    have e2 : decide (50 < n) = true := decide_eq_true a2
    clear h a1 a2
    go_enter Try.func7, Try.ntmps7
    go_wp2_with fail
    (with_reducible refine (wawake_any _).mono ?_); rintro e w3 ⟨rfl, hf3⟩
    have HF3 := Aside0.mk hf3
    clear hf3
    go_wp2
    go_ret
    exact ⟨rfl, HF3.out⟩
  have e1 : decide ((50 : Int) < (n : Int)) = false := decide_eq_false (by omega)
  by_cases a3 : 200 < key.size
  · have f1 : decide ((200 : Int) < (key.size : Int)) = true := decide_eq_true (by omega)
    have f2 : decide (200 < key.size) = true := decide_eq_true a3
    clear h a1 a2 a3
    go_enter Try.func7, Try.ntmps7
    go_wp2_with fail
    (with_reducible refine (wawake_any _).mono ?_); rintro e w3 ⟨rfl, hf3⟩
    have HF3 := Aside0.mk hf3
    clear hf3
    go_wp2
    go_ret
    exact ⟨rfl, HF3.out⟩
  have f1 : decide ((200 : Int) < (key.size : Int)) = false := decide_eq_false (by omega)
  by_cases a4 : 200 < other.size
  · have i1 : decide ((200 : Int) < (other.size : Int)) = true := decide_eq_true (by omega)
    have i2 : decide (200 < other.size) = true := decide_eq_true a4
    clear h a1 a2 a3 a4
    go_enter Try.func7, Try.ntmps7
    go_wp2_with fail
    (with_reducible refine (wawake_any _).mono ?_); rintro e w3 ⟨rfl, hf3⟩
    have HF3 := Aside0.mk hf3
    clear hf3
    go_wp2
    go_ret
    exact ⟨rfl, HF3.out⟩
  have i1 : decide ((200 : Int) < (other.size : Int)) = false := decide_eq_false (by omega)
  have hk : key = other := by
    rcases h with h | h | h | h | h
    · exact absurd h a1
    · exact absurd h a2
    · exact absurd h a3
    · exact absurd h a4
    · exact h
  subst hk
  clear h a1 a2 a3 a4
  go_enter Try.func7, Try.ntmps7
  go_wp2_with fail
  (with_reducible refine (wawake_any _).mono ?_); rintro e w3 ⟨rfl, hf3⟩
  have HF3 := Aside0.mk hf3
  clear hf3
  go_wp2
  go_ret
  exact ⟨rfl, HF3.out⟩
def lastK (key other : ByteArray) (l : List Int) : Nat → List KV
  | 0 => [(other, 0)]
  | i + 1 => [(other, 0), (key, intAt l i)]
section
variable {w0 w : World} {S : Nat → Prop} {p : Nat} {key other : ByteArray} {l : List Int}
theorem lastK_len (i : Nat) : (lastK key other l i).length < 9999 := by cases i <;> (unfold lastK; simp)
theorem lastK_drop (hne : key ≠ other) (i : Nat) : dropK (lastK key other l i) key = [(other, 0)] := by
  have h1 : dropK [((other, 0) : KV)] key = [(other, 0)] := dropK_none (by intro c hc; obtain rfl := List.mem_singleton.1 hc; exact Ne.symm hne)
  cases i with
  | zero => exact h1
  | succ i =>
    unfold lastK dropK
    rw [List.filter_cons, if_pos (by simpa using Ne.symm hne), List.filter_cons, if_neg (by simp)]; rfl
theorem WB.cell {K : List KV} (h : WB w0 w S p K) {a : Addr} {v : Value} (hc : w0.cell? a = some v) : w.cell? a = some v := h.f.cell hc (fun x => x)
theorem wl_put0 (h : WB w0 w S p []) (ho : other.size ≤ 200) : Calls Try.prog 27 #[.pointer (some ⟨p, 0, none⟩), .string other, .int .i64 0] w fun e w' => e = .returned (.tuple #[]) ∧ ∃ S', WB w0 w' S' p (lastK key other l 0) := by
  refine (h.k.put other (by omega) 0 (by decide)).mono ?_
  rintro e w' ⟨a, S', h1, h2, h3⟩
  exact ⟨a, S', h.moved (show WK w' S' p [(other, 0)] from h1) h2 h3⟩
theorem wl_put (i : Nat) (h : WB w0 w S p (lastK key other l i)) (hk : key.size ≤ 200) (hne : key ≠ other) : Calls Try.prog 27 #[.pointer (some ⟨p, 0, none⟩), .string key, .int .i64 (intAt l i)] w fun e w' => e = .returned (.tuple #[]) ∧ ∃ S', WB w0 w' S' p (lastK key other l (i + 1)) := by
  refine (h.k.put key (by omega) (intAt l i) (lastK_len i)).mono ?_
  rintro e w' ⟨a, S', h1, h2, h3⟩
  rw [lastK_drop hne] at h1
  exact ⟨a, S', h.moved h1 h2 h3⟩
theorem wl_at (i : Nat) (h : WB w0 w S p (lastK key other l (i + 1))) (hk : key.size ≤ 200) : Calls Try.prog 36 #[.pointer (some ⟨p, 0, none⟩), .string key] w fun e w' => e = .returned (.tuple #[.int .i64 (intAt l i), .bool true]) ∧ w = w' := by
  have := h.k.at_ key (by omega)
  rw [atK_of h.k.nodup (t := intAt l i) (by unfold lastK; simp), show hasK (lastK key other l (i + 1)) key = true from decide_eq_true ⟨(key, intAt l i), by unfold lastK; simp, rfl⟩] at this
  exact this
theorem wl_len2 (i : Nat) (h : WB w0 w S p (lastK key other l (i + 1))) : Calls Try.prog 38 #[.pointer (some ⟨p, 0, none⟩)] w fun e w' => e = .returned (.int .i64 2) ∧ w = w' := h.k.len
theorem wl_drop (i : Nat) (h : WB w0 w S p (lastK key other l (i + 1))) (hk : key.size ≤ 200) (hne : key ≠ other) : Calls Try.prog 29 #[.pointer (some ⟨p, 0, none⟩), .string key] w fun e w' => e = .returned (.bool true) ∧ ∃ S', WB w0 w' S' p [(other, 0)] := by
  refine (h.k.drop key (by omega)).mono ?_
  rintro e w' ⟨a, S', h1, h2, h3⟩
  rw [lastK_drop hne] at h1
  exact ⟨by rw [a, show hasK (lastK key other l (i + 1)) key = true from decide_eq_true ⟨(key, intAt l i), by unfold lastK; simp, rfl⟩], S', h.moved h1 h2 h3⟩
theorem wl_len1 (h : WB w0 w S p [(other, 0)]) : Calls Try.prog 38 #[.pointer (some ⟨p, 0, none⟩)] w fun e w' => e = .returned (.int .i64 1) ∧ w = w' := h.k.len
end
set_option maxHeartbeats 2000000 in
theorem wl_walk (key : ByteArray) (A : Option Addr) (c : Nat) (l : List Int) (other : ByteArray) (w : World) (hr : Kd.C (Kd.int .i64) w A l.length l) (hc : l.length ≤ c) (h1 : 1 ≤ l.length) (h2 : l.length ≤ 50) (h3 : key.size ≤ 200) (h4 : other.size ≤ 200) (h5 : key ≠ other) :
    Calls Try.prog 7 #[.string key, .slice A l.length c, .string other] w fun e w' => e = .returned (.bool true) ∧ Frm (fun _ => False) w w' := by
  have HR := Aside0.mk hr
  have d1 : decide ((l.length : Int) < 1) = false := decide_eq_false (by omega)
  have d2 : decide ((50 : Int) < (l.length : Int)) = false := decide_eq_false (by omega)
  have d3 : decide ((200 : Int) < (key.size : Int)) = false := decide_eq_false (by omega)
  have d4 : decide ((200 : Int) < (other.size : Int)) = false := decide_eq_false (by omega)
  have d5 : (key.toList == other.toList) = false := by simpa using bytes_ne h5
  have H3 := Lib.hid h3
  have H4 := Lib.hid h4
  have H5 := Lib.hid h5
  clear hr h5
  go_enter Try.func7, Try.ntmps7
  go_wp2_with fail
  (with_reducible refine (wnewB _).mono ?_); rintro e w1 ⟨p, S1, rfl, hb1⟩
  have HB1 := Aside0.mk hb1
  clear hb1
  go_wp2_with fail
  (with_reducible refine (wl_put0 (key := key) (l := l) HB1.out H4.out).mono ?_); rintro e w2 ⟨rfl, S2, hb2⟩
  have HB2 := Aside0.mk hb2
  clear hb2 HB1
  go_wp2
  go_loopw [8] (fun v8 wr => ∃ (i : Nat) (S : Nat → Prop), v8 = .int .i64 (i : Nat) ∧ i ≤ l.length ∧ Aside0 (WB w wr S p (lastK key other l i))) (fun v8 _ => l.length - (intOf v8).toNat)
  case atStart => exact ⟨0, S2, rfl, Nat.zero_le _, HB2⟩
  case round =>
    clear HB2
    obtain ⟨i, S, rfl, hi, HB⟩ := hrel
    by_cases hlt : i < l.length
    · obtain ⟨ad, rfl, q0⟩ := ints_at HR.out i hlt
      have q1 := HB.out.cell q0
      clear q0
      go_wp2_with fail
      (with_reducible refine (wl_put i HB.out H3.out H5.out).mono ?_); rintro e w3 ⟨rfl, S3, hb3⟩
      have HB3 := Aside0.mk hb3
      clear hb3 q1
      go_wp2
      go_roundw
      case rel => exact ⟨i + 1, S3, by go_num, by omega, HB3⟩
      case measure => simp [intOf]; omega
    · obtain rfl : i = l.length := by omega
      obtain ⟨m, hm⟩ : ∃ m, l.length = m + 1 := ⟨l.length - 1, by omega⟩
      obtain ⟨ad, rfl, q0⟩ := ints_at HR.out m (by omega)
      have q1 := HB.out.cell q0
      have Q0 := Lib.hid q0
      clear q0
      have hlm : ((l.length : Int) - 1) = (m : Int) := by omega
      rw [hm] at HB
      have hl0 : decide ((l.length : Int) < (l.length : Int)) = false := decide_eq_false (by omega)
      go_wp2_with fail
      (with_reducible refine (wl_at m HB.out H3.out).mono ?_); rintro e w3 ⟨rfl, rfl⟩
      go_wp2_with fail
      (with_reducible refine (wl_len2 m HB.out).mono ?_); rintro e w3 ⟨rfl, rfl⟩
      go_wp2_with fail
      (with_reducible refine (wl_drop m HB.out H3.out H5.out).mono ?_); rintro e w4 ⟨rfl, S4, hb4⟩
      have HB4 := Aside0.mk hb4
      clear hb4
      go_wp2_with fail
      (with_reducible refine (wl_len1 HB4.out).mono ?_); rintro e w5 ⟨rfl, rfl⟩
      go_wp2_with fail
      (with_reducible refine (wawake_any _).mono ?_); rintro e w6 ⟨rfl, hf6⟩
      have HF6 := Aside0.mk hf6
      clear hf6
      go_wp2
      go_ret
      exact ⟨rfl, HB4.out.f.trans HF6.out⟩
theorem wheelLast_calls (key : ByteArray) (A : Option Addr) (c : Nat) (l : List Int) (other : ByteArray) (w : World) (hr : Kd.C (Kd.int .i64) w A l.length l) (hc : l.length ≤ c) :
    Calls Try.prog 7 #[.string key, .slice A l.length c, .string other] w fun e w' => e = .returned (.bool true) ∧ Below w.heap.size w w' := by
  have fin : ∀ {e : Ending} {w' : World}, (e = .returned (.bool true) ∧ Frm (fun _ => False) w w') → (e = .returned (.bool true) ∧ Below w.heap.size w w') := fun h => ⟨h.1, h.2.to_below⟩
  by_cases h : l.length < 1 ∨ 50 < l.length ∨ 200 < key.size ∨ 200 < other.size ∨ key = other
  · exact (wl_out key A c l.length other w h).mono fun e w' h => fin h
  · exact (wl_walk key A c l other w hr hc (by omega) (by omega) (by omega) (by omega) (fun e => h (by simp [e]))).mono fun e w' h => fin h
end Go.Proofs.Ytjgoddieamphpaa.Wh
