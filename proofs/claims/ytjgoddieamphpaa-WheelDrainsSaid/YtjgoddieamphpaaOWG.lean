/- A part of the proof. -/
import Derived.Test.YtjgoddieamphpaaOWF
namespace Go.Proofs.Ytjgoddieamphpaa.Wh
open Go.RowKit Go.Sort Go.Proofs.YtjgoddieamphpaaW.PrintWords Go.Proofs.YtjgoddieamphpaaW.PrintLast Heap Go.Proofs.Ytjgoddieamphpaa.Obj Go.Maps Go.WideMaps
set_option maxRecDepth 100000
set_option linter.unusedVariables false
/-- How a pointer to an item reads: its block. -/
def ptrR : Value → Option (DataW Unit × List MemPlace)
  | .pointer none => some (.nil, [])
  | .pointer (some a) => if a.off = 0 ∧ a.spot = none then some (.lit (.int .i64 (a.block : Int)), []) else none
  | _ => none
theorem ptrR_hit {v : Value} {n : Nat} {ps : List MemPlace} (h : ptrR v = some (.lit (.int .i64 (n : Int)), ps)) : v = ptr n := by
  unfold ptrR at h
  split at h
  · simp at h
  · rename_i a
    split at h
    · rename_i hc
      obtain ⟨b, o, s⟩ := a
      simp only [Option.some.injEq, Prod.mk.injEq, DataW.lit.injEq, Lit.int.injEq, true_and] at h
      obtain ⟨h1, h2⟩ := hc
      have h1 : o = 0 := h1
      have h2 : s = none := h2
      have h3 : b = n := by have := h.1; omega
      subst h1; subst h2; subst h3; rfl
    · cases h
  · cases h
theorem ptrR_miss {v : Value} {ps : List MemPlace} (h : ptrR v = some (.nil, ps)) : v = .pointer none := by
  unfold ptrR at h
  split at h
  · rfl
  · split at h <;> simp at h
  · cases h
theorem ptrR_mk (n : Nat) : ptrR (ptr n) = some (.lit (.int .i64 (n : Int)), []) := by simp [ptrR, ptr]
def skey (k : ByteArray) : Lit := .string k.data.toList
theorem skey_inj {a b : ByteArray} (h : skey a = skey b) : a = b := by
  unfold skey at h
  injection h with h
  obtain ⟨⟨x⟩⟩ := a
  obtain ⟨⟨y⟩⟩ := b
  have h : x = y := h
  rw [h]
/-- Block mb is a map: of each item's key to its block. -/
structure MapOf (w : World) (mb : Nat) (xs : List It) (D : DataW Unit) : Prop where
  own : w.ownsMap Try.prog 9 ptrR mb xs.length D
  sz : Maps.size D = xs.length
  hit : ∀ x ∈ xs, Maps.has D (skey x.2.1) = true ∧ D.atKey (skey x.2.1) .nil = .lit (.int .i64 (x.1 : Int))
  miss : ∀ k : ByteArray, (∀ x ∈ xs, x.2.1 ≠ k) → Maps.has D (skey k) = false
theorem law9 : Keyed Try.prog 9 := string_keyed Try.underlying9
theorem zeroP (w : World) : (zeroValue 109).run Try.prog w = .ok (.pointer none) w := by kernel_rfl
theorem own_size {w : World} {mb n : Nat} {D : DataW Unit} (h : w.ownsMap Try.prog 9 ptrR mb n D) : w.ownsMap Try.prog 9 ptrR mb (Maps.size D) D := by
  obtain ⟨es, clock, hb, F, hs, rfl⟩ := h
  exact ⟨es, clock, hb, F, by simp [Maps.size, length_sorted], rfl⟩
theorem MapOf.frm {w w1 : World} {mb : Nat} {xs : List It} {D : DataW Unit} (h : MapOf w mb xs D) (hb : w1.heap[mb]? = w.heap[mb]?) : MapOf w1 mb xs D := by
  refine ⟨?_, h.sz, h.hit, h.miss⟩
  obtain ⟨es, clock, hb', r⟩ := h.own
  exact ⟨es, clock, hb.trans hb', r⟩
theorem MapOf.blk {w : World} {mb : Nat} {xs : List It} {D : DataW Unit} (h : MapOf w mb xs D) : ∃ es c, w.heap[mb]? = some (.map es c) := by
  obtain ⟨es, clock, hb', r⟩ := h.own
  exact ⟨es, clock, hb'⟩
theorem MapOf.perm {w : World} {mb : Nat} {xs ys : List It} {D : DataW Unit} (h : MapOf w mb xs D) (hp : ys.Perm xs) : MapOf w mb ys D :=
  ⟨by rw [hp.length_eq]; exact h.own, by rw [hp.length_eq]; exact h.sz, fun x hx => h.hit x (hp.mem_iff.1 hx), fun k hk => h.miss k fun x hx => hk x (hp.mem_iff.2 hx)⟩
theorem MapOf.made (w : World) : MapOf (w.alloc (.map #[] 0)) w.heap.size [] (.map []) := by
  exact ⟨World.ownsMap_made w _ _ _, rfl, (fun x hx => by cases hx), (fun k _ => rfl)⟩
theorem MapOf.put {w w1 : World} {mb : Nat} {xs : List It} {D : DataW Unit} (h : MapOf w mb xs D) (x : It) (hx : ∀ y ∈ xs, y.2.1 ≠ x.2.1) (h1 : w1.ownsMap Try.prog 9 ptrR mb (xs.length + 1) (D.put (skey x.2.1) (.lit (.int .i64 (x.1 : Int))))) : ∃ D', MapOf w1 mb (xs ++ [x]) D' := by
  have hk : WideAt.IsKeyLit (skey x.2.1) := trivial
  have ht : Tidy D := h.own.tidy law9
  refine ⟨D.put (skey x.2.1) (.lit (.int .i64 (x.1 : Int))), ?_, ?_, ?_, ?_⟩
  · rw [List.length_append]; exact h1
  · rw [size_put ht, h.miss _ hx, List.length_append, if_neg (by decide), h.sz]; rfl
  · intro y hy
    rcases List.mem_append.1 hy with hy | hy
    · have hne : skey y.2.1 ≠ skey x.2.1 := fun e => hx y hy (skey_inj e)
      rw [has_put_other hne, atKey_put_other hne]
      exact h.hit y hy
    · obtain rfl := List.mem_singleton.1 hy
      exact ⟨has_put_same ht.isMap hk _, atKey_put_same ht.isMap hk _ _⟩
  · intro k hk2
    have hne : skey k ≠ skey x.2.1 := fun e => hk2 x (by simp) (skey_inj e).symm
    rw [has_put_other hne]
    exact h.miss k fun y hy => hk2 y (by simp [hy])
theorem MapOf.del {w w1 : World} {mb : Nat} {xs ys : List It} {D : DataW Unit} (h : MapOf w mb xs D) (x : It) (hp : (x :: ys).Perm xs) (hn : (xs.map (·.2.1)).Nodup) (h1 : w1.ownsMap Try.prog 9 ptrR mb xs.length (D.del (skey x.2.1))) : MapOf w1 mb ys (D.del (skey x.2.1)) := by
  have ht : Tidy D := h.own.tidy law9
  have hx : x ∈ xs := hp.mem_iff.1 (by simp)
  have hn2 : ((x :: ys).map (·.2.1)).Nodup := (hp.map _).nodup_iff.2 hn
  rw [List.map_cons, List.nodup_cons] at hn2
  have hz : Maps.size (D.del (skey x.2.1)) = ys.length := by
    have := size_del (k := skey x.2.1) ht
    rw [(h.hit x hx).1, if_pos rfl, h.sz, ← hp.length_eq] at this
    simpa using this
  have hne : ∀ y ∈ ys, skey y.2.1 ≠ skey x.2.1 := fun y hy e => hn2.1 (by rw [← skey_inj e]; exact List.mem_map.2 ⟨y, hy, rfl⟩)
  refine ⟨by rw [← hz]; exact own_size h1, hz, fun y hy => ?_, fun k hk => ?_⟩
  · rw [has_del_other (hne y hy), atKey_del_other (hne y hy)]
    exact h.hit y (hp.mem_iff.1 (by simp [hy]))
  · by_cases e : x.2.1 = k
    · rw [← e]; exact has_del_same
    · have hne2 : skey k ≠ skey x.2.1 := fun e2 => e (skey_inj e2).symm
      rw [has_del_other hne2]
      refine h.miss k fun y hy => ?_
      rcases List.mem_cons.1 (hp.mem_iff.2 hy) with e3 | e3
      · rw [e3]; exact e
      · exact hk y e3
/-! At the operation. -/
section
variable (w : World) {ops : Array Oper} {rest : List Oper} {o : Oper} {a : Act} {Q : Exit → Act → World → Prop}
theorem wp_look_hit (hg : o.guard = none) (m x : Operand) (hop : o.op = Op.lookup 104 m x true) (mb : Nat) (xs : List It) (D : DataW Unit) (hm : a.eval m = .map (some mb)) (M : MapOf w mb xs D) (key : ByteArray) (hx : a.eval x = .string key) (hs : key.size ≤ maxLen) (y : It) (hy : y ∈ xs) (hk : y.2.1 = key)
    (hK : wpList Try.prog ops Q rest (a.put o.dst (.tuple #[.pointer (some ⟨y.1, 0, none⟩), .bool true])) w) : wpList Try.prog ops Q (o :: rest) a w := by
  subst hk
  obtain ⟨h1, h2⟩ := M.hit y hy
  refine wpList_lookup_own_ok w hg m x 104 hop 9 109 law9 Try.underlying104 ptrR (zeroP w) .nil [] rfl mb xs.length D hm M.own _ (skey y.2.1) hx (keyOf_string_mk Try.underlying9 hs) (fun v ps hv => ?_)
  rw [h2] at hv
  rw [h1, ptrR_hit hv]
  exact hK
theorem wp_look_miss (hg : o.guard = none) (m x : Operand) (hop : o.op = Op.lookup 104 m x true) (mb : Nat) (xs : List It) (D : DataW Unit) (hm : a.eval m = .map (some mb)) (M : MapOf w mb xs D) (key : ByteArray) (hx : a.eval x = .string key) (hs : key.size ≤ maxLen) (hy : ∀ y ∈ xs, y.2.1 ≠ key)
    (hK : wpList Try.prog ops Q rest (a.put o.dst (.tuple #[.pointer none, .bool false])) w) : wpList Try.prog ops Q (o :: rest) a w := by
  have h1 := M.miss key hy
  refine wpList_lookup_own_ok w hg m x 104 hop 9 109 law9 Try.underlying104 ptrR (zeroP w) .nil [] rfl mb xs.length D hm M.own _ (skey key) hx (keyOf_string_mk Try.underlying9 hs) (fun v ps hv => ?_)
  rw [atKey_of_not_has h1] at hv
  rw [h1, ptrR_miss hv]
  exact hK
theorem wp_store (hg : o.guard = none) (m x v : Operand) (hop : o.op = Op.mapUpdate 104 m x v) (mb : Nat) (xs : List It) (D : DataW Unit) (hm : a.eval m = .map (some mb)) (M : MapOf w mb xs D) (hn : xs.length < maxLen) (y : It) (hx : a.eval x = .string y.2.1) (hv : a.eval v = .pointer (some ⟨y.1, 0, none⟩)) (hs : y.2.1.size ≤ maxLen) (hy : ∀ z ∈ xs, z.2.1 ≠ y.2.1)
    (hK : ∀ w' D', MapOf w' mb (xs ++ [y]) D' → w.grownBy w' (some mb) → wpList Try.prog ops Q rest (a.put o.dst undef) w') : wpList Try.prog ops Q (o :: rest) a w := by
  refine wpList_mapUpdate_own w hg m x v 104 hop 9 109 law9 Try.underlying104 ptrR mb xs.length D hm M.own hn _ _ (skey y.2.1) hx hv (keyOf_string_mk Try.underlying9 hs) _ [] (ptrR_mk y.1) (fun w' h1 h2 => ?_)
  obtain ⟨D', hD⟩ := M.put y hy h1
  exact hK w' D' hD h2
theorem wp_delete (hg : o.guard = none) (m x : Operand) (hop : o.op = Op.call { callee := Callee.builtin Builtin.delete, args := #[m, x], argTypes := #[104, 9] }) (mb : Nat) (xs ys : List It) (D : DataW Unit) (hm : a.eval m = .map (some mb)) (M : MapOf w mb xs D) (y : It) (hx : a.eval x = .string y.2.1) (hs : y.2.1.size ≤ maxLen) (hp : (y :: ys).Perm xs) (hn : (xs.map (·.2.1)).Nodup)
    (hK : ∀ w' D', MapOf w' mb ys D' → w.grownBy w' (some mb) → wpList Try.prog ops Q rest (a.put o.dst (.tuple #[])) w') : wpList Try.prog ops Q (o :: rest) a w := by
  refine wpList_delete_own w hg m x 104 9 hop 109 law9 Try.underlying104 ptrR mb xs.length D hm M.own _ (skey y.2.1) hx (keyOf_string_mk Try.underlying9 hs) (fun w' h1 h2 => ?_)
  exact hK w' _ (M.del y hp hn h1) h2.grown
end
end Go.Proofs.Ytjgoddieamphpaa.Wh
