/- A part of the proof. -/
import Derived.Test.YtjgoddieamphpaaOXI
namespace Go.Proofs.Ytjgoddieamphpaa.Wh
open Go.RowKit Go.Sort Go.Proofs.YtjgoddieamphpaaW.PrintWords Go.Proofs.YtjgoddieamphpaaW.PrintLast Heap Go.Proofs.Ytjgoddieamphpaa.Obj Go.Proofs.Ytjgoddieamphpaa.PWheelActs
set_option maxRecDepth 100000
set_option linter.unusedVariables false
theorem ex_first : ∀ K : List KV, 0 < K.length → ∃ x, IsFirst K x
  | [], h => by cases h
  | [c], _ => ⟨c, by simp, fun y hy => by obtain rfl := List.mem_singleton.1 hy; exact lessK_irr _⟩
  | c :: d :: K, _ => by
    obtain ⟨x, h1, h2⟩ := ex_first (d :: K) (by simp)
    cases hl : lessK c x with
    | true =>
      refine ⟨c, by simp, fun y hy => ?_⟩
      rcases List.mem_cons.1 hy with rfl | hy
      · exact lessK_irr _
      · have h3 := h2 y hy
        have h4 : lessK x c = false := by
          cases e : lessK x c with
          | false => rfl
          | true => have := lessK_tr _ _ _ hl e; rw [lessK_irr] at this; cases this
        exact lessK_ntr _ _ _ h3 h4
    | false =>
      refine ⟨x, List.mem_cons_of_mem _ h1, fun y hy => ?_⟩
      rcases List.mem_cons.1 hy with rfl | hy
      · exact hl
      · exact h2 y hy
theorem ex_dues (now : Int) : ∀ (m : Nat) (K : List KV), ∃ o K1, Dues now m K o K1
  | 0, K => ⟨[], K, .full K⟩
  | m + 1, K => by
    by_cases h0 : 0 < K.length
    · obtain ⟨x, hx⟩ := ex_first K h0
      by_cases hd : now < x.2
      · exact ⟨[], K, .later m K x hx hd⟩
      · obtain ⟨o, K1, h⟩ := ex_dues now m (dropK K x.1)
        exact ⟨x.1 :: o, K1, .one m K _ K1 x o hx (by omega) (List.Perm.refl _) h⟩
    · have : K = [] := List.eq_nil_of_length_eq_zero (by omega)
      subst this
      exact ⟨[], [], .none m⟩
theorem dropK_lt {K : List KV} {x : KV} (h : x ∈ K) : (dropK K x.1).length < K.length := by
  unfold dropK
  exact List.length_filter_lt_length_iff_exists.2 ⟨x, h, by simp⟩
theorem Dues.len {now : Int} {m : Nat} {K K1 : List KV} {o : List ByteArray} (h : Dues now m K o K1) : o.length + K1.length ≤ K.length := by
  induction h with
  | full => simp
  | none => simp
  | later => simp
  | one m K K1 K2 x out h1 h2 h3 h4 ih =>
    have := h3.length_eq
    have := dropK_lt h1.1
    simp
    omega
theorem dropK_len (K : List KV) (k : ByteArray) : (dropK K k).length ≤ K.length := List.length_filter_le _ _
theorem putW_len (L : List S98) (k : ByteArray) (t : Int) : (putW L k t).length ≤ L.length + 1 := by
  unfold putW; rw [List.length_append]; have := delL_len L k; simp; omega
section
variable {w0 w w1 : World} {S S' : Nat → Prop} {p m : Nat} {K K' K1 : List KV} {L L' : List S98}
theorem WA.wlen (h : WA w0 w S p m K L) (hp : K.Perm (kvU L)) : Calls Try.prog 38 #[.pointer (some ⟨p, 0, none⟩)] w fun e w' => e = .returned (.int .i64 (L.length : Nat)) ∧ w = w' := by
  have hl : L.length = K.length := by rw [hp.length_eq]; unfold kvU; rw [List.length_map]
  rw [hl]; exact h.k.len
theorem WA.rdropB (h : WA w0 w S p m K L) {xb : Nat} {X : Array Value} (hx : w.heap[xb]? = some (.cells X 53 (0, 0))) (k : ByteArray) {B : Bool} (hb : hasB L k = B) :
    Calls Try.prog 30 #[.pointer (some ⟨m, 0, none⟩), .string k] w fun e w' => e = .returned (.bool B) ∧ WA w0 w' S p m K (delL L k) ∧ w'.heap[xb]? = some (.cells X 53 (0, 0)) := by
  subst hb; exact h.rdrop hx k
theorem WA.wdueD (h : WA w0 w S p m K L) {xb : Nat} {X : Array Value} (hx : w.heap[xb]? = some (.cells X 53 (0, 0))) {now most : Int} {o : List ByteArray} (hd : Dues now most.toNat K o K1) :
    Calls Try.prog 32 #[.pointer (some ⟨p, 0, none⟩), .int .i64 now, .int .i64 most] w fun e w' => ∃ A c S', e = .returned (.slice A o.length c) ∧ Kd.R Kd.string 9 w' w.heap.size (fun _ => True) (.slice A o.length c) o ∧ WA w0 w' S' p m K1 L ∧ Frm S w w' ∧ w'.heap[xb]? = some (.cells X 53 (0, 0)) := by
  refine (h.k.due now most).mono ?_
  rintro e w' ⟨A, c, o', K', S', a, h1, h2, h3, h4, h5⟩
  obtain ⟨rfl, hp⟩ := h5.uniq hd (List.Perm.refl _)
  exact ⟨A, c, S', a, h1, h.movedK (h2.perm hp) h3 h4, h3, h.keepK hx h3⟩
theorem WA.rdueD (h : WA w0 w S p m K L) {xb : Nat} {X : Array Value} (hx : w.heap[xb]? = some (.cells X 53 (0, 0))) (hn : (L.map (·.f0)).Nodup) {now most : Int} {o : List ByteArray} {K0 : List KV} (hd : Dues now most.toNat K0 o K1) (hp : K0.Perm (kvU L)) :
    Calls Try.prog 33 #[.pointer (some ⟨m, 0, none⟩), .int .i64 now, .int .i64 most] w fun e w' => ∃ A c L', e = .returned (.slice A o.length c) ∧ Kd.R Kd.string 9 w' w.heap.size (fun _ => True) (.slice A o.length c) o ∧ WA w0 w' S p m K L' ∧ K1.Perm (kvU L') ∧ L'.length ≤ L.length ∧ Frm (fun b => b = m) w w' ∧ w'.heap[xb]? = some (.cells X 53 (0, 0)) := by
  obtain ⟨v, hv⟩ := h.r
  refine (rwdue_any hv hn now most).mono ?_
  rintro e w' ⟨A, c, o', v', L', a, h1, h2, h3, h4, h5, h6⟩
  obtain ⟨rfl, hp2⟩ := hd.uniq h6 hp
  exact ⟨A, c, L', a, h1, h.movedR ⟨v', h2⟩ h5, hp2, h4, h5, h.keepR hx h5⟩
end
end Go.Proofs.Ytjgoddieamphpaa.Wh
