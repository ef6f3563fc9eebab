/- Maps of texts to numbers, and what counts in them: a part of the proof. -/
import Derived.Test.YtehlhaddbfjllaaOUObj
import Derived.Maps.OwnSet
import Derived.Sort.KeysCollected
import Derived.Lib.SlMapFilter
namespace Go.Proofs.Ytehlhaddbfjllaa.Mp
open Go.RowKit Go.Proofs.YtehlhaddbfjllaaW.PrintWords Go.Proofs.YtehlhaddbfjllaaW.PrintLast Go.Maps Go.WideMaps
set_option maxRecDepth 100000
set_option linter.unusedVariables false
/-! A map of texts to numbers, as a row of pairs. -/
abbrev KV := ByteArray × Int
/-- How a number reads. -/
def intR : Value → Option (DataW Unit × List MemPlace)
  | .int .i64 n => some (.lit (.int .i64 n), [])
  | _ => none
theorem intR_inv {v : Value} {d : DataW Unit} {ps : List MemPlace} (h : intR v = some (d, ps)) : ∃ n, v = .int .i64 n ∧ d = .lit (.int .i64 n) := by
  unfold intR at h
  split at h
  · rename_i n
    simp only [Option.some.injEq, Prod.mk.injEq] at h
    exact ⟨n, rfl, h.1.symm⟩
  · cases h
def skey (k : ByteArray) : Lit := .string k.data.toList
theorem skey_inj {a b : ByteArray} (h : skey a = skey b) : a = b := by
  unfold skey at h
  injection h with h
  obtain ⟨⟨x⟩⟩ := a
  obtain ⟨⟨y⟩⟩ := b
  have h : x = y := h
  rw [h]
theorem skey_same (a b : ByteArray) : (skey a).sameKey (skey b) = decide (a = b) := by
  by_cases h : a = b
  · subst h
    rw [decide_eq_true rfl]
    unfold skey Lit.sameKey
    simp
  · rw [decide_eq_false h]
    exact sameKey_ne (fun e => h (skey_inj e))
def ent (c : KV) : Lit × DataW Unit := (skey c.1, .lit (.int .i64 c.2))
/-- Without a key. -/
def dropK (K : List KV) (k : ByteArray) : List KV := K.filter fun c => decide (c.1 ≠ k)
def getK (K : List KV) (k : ByteArray) : Int := match K.find? (fun c => decide (c.1 = k)) with | some c => c.2 | none => 0
def hasK (K : List KV) (k : ByteArray) : Bool := K.any fun c => decide (c.1 = k)
def keysK (K : List KV) : List (List UInt8) := K.map fun c => c.1.data.toList
def ND (K : List KV) : Prop := (K.map (·.1)).Nodup
theorem hasK_iff (K : List KV) (k : ByteArray) : hasK K k = true ↔ ∃ c ∈ K, c.1 = k := by
  unfold hasK
  rw [List.any_eq_true]
  exact ⟨fun ⟨c, hc, e⟩ => ⟨c, hc, of_decide_eq_true e⟩, fun ⟨c, hc, e⟩ => ⟨c, hc, decide_eq_true e⟩⟩
theorem hasK_perm {K K' : List KV} (h : K.Perm K') (k : ByteArray) : hasK K k = hasK K' k := by
  rw [Bool.eq_iff_iff, hasK_iff, hasK_iff]
  exact ⟨fun ⟨c, hc, e⟩ => ⟨c, h.mem_iff.1 hc, e⟩, fun ⟨c, hc, e⟩ => ⟨c, h.mem_iff.2 hc, e⟩⟩
theorem nd_uniq : ∀ {K : List KV}, ND K → ∀ {c d : KV}, c ∈ K → d ∈ K → c.1 = d.1 → c = d
  | [], _, _, _, h, _, _ => by cases h
  | x :: t, hn, c, d, hc, hd, e => by
    unfold ND at hn
    rw [List.map_cons, List.nodup_cons] at hn
    rcases List.mem_cons.1 hc with h1 | h1
    · rcases List.mem_cons.1 hd with h2 | h2
      · exact h1.trans h2.symm
      · exact absurd (show x.1 ∈ t.map (·.1) from List.mem_map.2 ⟨d, h2, by rw [← e, h1]⟩) hn.1
    · rcases List.mem_cons.1 hd with h2 | h2
      · exact absurd (show x.1 ∈ t.map (·.1) from List.mem_map.2 ⟨c, h1, by rw [e, h2]⟩) hn.1
      · exact nd_uniq hn.2 h1 h2 e
theorem getK_of {K : List KV} (hn : ND K) {c : KV} (hc : c ∈ K) : getK K c.1 = c.2 := by
  unfold getK
  cases h : K.find? (fun d => decide (d.1 = c.1)) with
  | none => exact absurd (decide_eq_true (rfl : c.1 = c.1)) (by simpa using List.find?_eq_none.1 h c hc)
  | some d =>
    have h1 : decide (d.1 = c.1) = true := List.find?_some (p := fun d : KV => decide (d.1 = c.1)) h
    have h2 := List.mem_of_find?_eq_some h
    rw [nd_uniq hn h2 hc (of_decide_eq_true h1)]
theorem getK_no {K : List KV} {k : ByteArray} (h : hasK K k = false) : getK K k = 0 := by
  unfold getK
  cases h1 : K.find? (fun d => decide (d.1 = k)) with
  | none => rfl
  | some d =>
    have := (hasK_iff K k).2 ⟨d, List.mem_of_find?_eq_some h1, of_decide_eq_true (List.find?_some (p := fun d : KV => decide (d.1 = k)) h1)⟩
    rw [h] at this; cases this
theorem ND.perm {K K' : List KV} (h : ND K) (hp : K.Perm K') : ND K' := (hp.map _).nodup_iff.1 h
theorem getK_perm {K K' : List KV} (hn : ND K) (hp : K.Perm K') (k : ByteArray) : getK K k = getK K' k := by
  cases h : hasK K k with
  | true =>
    obtain ⟨c, hc, rfl⟩ := (hasK_iff K k).1 h
    rw [getK_of hn hc, getK_of (hn.perm hp) (hp.mem_iff.1 hc)]
  | false => rw [getK_no h, getK_no (by rw [← hasK_perm hp]; exact h)]
theorem ND.dropK {K : List KV} (h : ND K) (k : ByteArray) : ND (dropK K k) := h.sublist ((List.filter_sublist (l := K)).map _)
theorem mem_dropK {K : List KV} {k : ByteArray} {c : KV} : c ∈ dropK K k ↔ c ∈ K ∧ c.1 ≠ k := by
  unfold dropK
  rw [List.mem_filter]
  exact ⟨fun ⟨a, b⟩ => ⟨a, of_decide_eq_true b⟩, fun ⟨a, b⟩ => ⟨a, decide_eq_true b⟩⟩
theorem ND.put {K : List KV} (h : ND K) (k : ByteArray) (v : Int) : ND ((k, v) :: Mp.dropK K k) := by
  unfold ND
  rw [List.map_cons, List.nodup_cons]
  refine ⟨fun hm => ?_, h.dropK k⟩
  obtain ⟨c, hc, e⟩ := List.mem_map.1 hm
  exact (mem_dropK.1 hc).2 e
theorem nodup_of_map {α β : Type} (f : α → β) : ∀ {l : List α}, (l.map f).Nodup → l.Nodup
  | [], _ => List.nodup_nil
  | x :: t, h => by
    rw [List.map_cons, List.nodup_cons] at h
    exact List.nodup_cons.2 ⟨fun hx => h.1 (List.mem_map.2 ⟨x, hx, rfl⟩), nodup_of_map f h.2⟩
theorem dropK_no {K : List KV} {k : ByteArray} (h : hasK K k = false) : dropK K k = K := List.filter_eq_self.2 fun c hc => decide_eq_true fun e => by
  have := (hasK_iff K k).2 ⟨c, hc, e⟩
  rw [h] at this; cases this
theorem dropK_len_has {K : List KV} (hn : ND K) {k : ByteArray} (h : hasK K k = true) : (dropK K k).length + 1 = K.length := by
  obtain ⟨c, hc, rfl⟩ := (hasK_iff K k).1 h
  have hp : K.Perm (c :: dropK K c.1) := by
    refine (List.perm_ext_iff_of_nodup ?_ ?_).2 fun d => ?_
    · exact (nodup_of_map _ hn)
    · exact nodup_of_map _ (hn.put c.1 c.2)
    · rw [List.mem_cons, mem_dropK]
      constructor
      · intro hd
        by_cases e : d.1 = c.1
        · exact .inl (nd_uniq hn hd hc e)
        · exact .inr ⟨hd, e⟩
      · rintro (rfl | h)
        · exact hc
        · exact h.1
  have := hp.length_eq
  simp at this
  omega
theorem dropK_len (K : List KV) (k : ByteArray) : (dropK K k).length ≤ K.length := List.length_filter_le _ _
/-! In memory. -/
def MI (w : World) (mb : Nat) (K : List KV) : Prop := ∃ es, w.ownsMap Try.prog 9 intR mb K.length (.map es) ∧ es.Perm (K.map ent) ∧ ND K
theorem law9 : Keyed Try.prog 9 := string_keyed Try.underlying9
theorem zeroI (w : World) : (zeroValue 3).run Try.prog w = .ok (.int .i64 0) w := by kernel_rfl
theorem own_size {w : World} {mb n : Nat} {D : DataW Unit} (h : w.ownsMap Try.prog 9 intR mb n D) : w.ownsMap Try.prog 9 intR mb (Maps.size D) D := by
  obtain ⟨es, clock, hb, F, hs, rfl⟩ := h
  exact ⟨es, clock, hb, F, by simp [Maps.size, length_sorted], rfl⟩
theorem ins_perm (x : Lit × DataW Unit) : ∀ l : List (Lit × DataW Unit), (DataW.insert x l).Perm (x :: l)
  | [] => List.Perm.refl _
  | y :: r => by
    unfold DataW.insert
    split
    · exact List.Perm.refl _
    · exact ((ins_perm x r).cons y).trans (List.Perm.swap _ _ _)
theorem ent_has {es : List (Lit × DataW Unit)} {K : List KV} (hp : es.Perm (K.map ent)) (k : ByteArray) : Maps.has (.map es) (skey k) = hasK K k := by
  rw [Maps.has_eq, hp.any_eq]
  unfold hasK
  rw [List.any_map]
  congr 1
  funext c
  exact skey_same c.1 k
theorem ent_at {es : List (Lit × DataW Unit)} {K : List KV} (hn : ND K) (hp : es.Perm (K.map ent)) (k : ByteArray) : DataW.atKey (.map es) (skey k) (.lit (.int .i64 0)) = .lit (.int .i64 (getK K k)) := by
  unfold DataW.atKey
  dsimp only
  cases h : es.find? (fun p => p.1.sameKey (skey k)) with
  | none =>
    have hh : hasK K k = false := by
      cases e : hasK K k with
      | false => rfl
      | true =>
        obtain ⟨c, hc, rfl⟩ := (hasK_iff K k).1 e
        have := List.find?_eq_none.1 h _ (hp.mem_iff.2 (List.mem_map.2 ⟨c, hc, rfl⟩))
        rw [show (ent c).1 = skey c.1 from rfl, skey_same] at this
        simp at this
    rw [getK_no hh]
  | some p =>
    obtain ⟨c, hc, rfl⟩ := List.mem_map.1 (hp.mem_iff.1 (List.mem_of_find?_eq_some h))
    have h1 := List.find?_some h
    rw [show (ent c).1 = skey c.1 from rfl, skey_same] at h1
    obtain rfl := of_decide_eq_true h1
    rw [getK_of hn hc]
    rfl
theorem ent_filter {es : List (Lit × DataW Unit)} {K : List KV} (hp : es.Perm (K.map ent)) (k : ByteArray) : (es.filter fun p => !p.1.sameKey (skey k)).Perm ((dropK K k).map ent) := by
  refine (hp.filter _).trans (List.Perm.of_eq ?_)
  rw [List.filter_map]
  unfold dropK
  congr 1
  refine List.filter_congr fun c _ => ?_
  show (!(skey c.1).sameKey (skey k)) = decide (c.1 ≠ k)
  rw [skey_same]
  by_cases h : c.1 = k <;> simp [h]
theorem ent_keys {es : List (Lit × DataW Unit)} {K : List KV} (hp : es.Perm (K.map ent)) : (strKeys (.map es)).Perm (keysK K) := by
  unfold strKeys keysK
  have := hp.map (fun p => strOf p.1)
  rw [List.map_map] at this
  exact this
section
variable {w w1 : World} {mb : Nat} {K K' : List KV}
theorem MI.nd (h : MI w mb K) : ND K := by obtain ⟨es, h1, h2, h3⟩ := h; exact h3
theorem MI.frm (h : MI w mb K) (hb : w1.heap[mb]? = w.heap[mb]?) : MI w1 mb K := by
  obtain ⟨es, ⟨e2, clock, hb', r⟩, h2, h3⟩ := h
  exact ⟨es, ⟨e2, clock, hb.trans hb', r⟩, h2, h3⟩
theorem MI.blk (h : MI w mb K) : ∃ es c, w.heap[mb]? = some (.map es c) := by
  obtain ⟨es, ⟨e2, clock, hb', r⟩, h2, h3⟩ := h
  exact ⟨_, _, hb'⟩
theorem MI.lt (h : MI w mb K) : mb < w.heap.size := by
  obtain ⟨e, c, hb⟩ := h.blk
  exact blk_lt hb
theorem MI.perm (h : MI w mb K) (hp : K.Perm K') : MI w mb K' := by
  obtain ⟨es, h1, h2, h3⟩ := h
  exact ⟨es, by rw [← hp.length_eq]; exact h1, h2.trans (hp.map _), h3.perm hp⟩
theorem MI.made (w : World) : MI (w.alloc (.map #[] 0)) w.heap.size [] := ⟨[], World.ownsMap_made w _ _ _, List.Perm.refl _, List.nodup_nil⟩
theorem MI.look (h : MI w mb K) (k : ByteArray) (hs : k.size ≤ maxLen) (c : Bool) : (Instr.lookup 65 (.map (some mb)) (.string k) c).run Try.prog w = .ok (if c then .tuple #[.int .i64 (getK K k), .bool (hasK K k)] else .int .i64 (getK K k)) w := by
  obtain ⟨es, h1, h2, h3⟩ := h
  have hkey : keyOf Try.prog 9 (.string k) = some (skey k) := keyOf_string_mk Try.underlying9 hs
  have ho := h1
  obtain ⟨e2, clock, hb, F, hs2, hD⟩ := ho
  have hat := ent_at h3 h2 k
  have hha := ent_has h2 k
  rcases Maps.fit_look c law9 Try.underlying65 (zeroI w) hb F hkey with ⟨hrun, _, hat2⟩ | ⟨e0, y, _, _, hrun, hRv, hat2, _⟩
  · rw [← hD] at hat2
    have e1 := hat2 (.lit (.int .i64 0))
    rw [hat] at e1
    have e1 : getK K k = 0 := by injection e1 with e1; injection e1
    have e3 : hasK K k = false := by rw [← hha]; exact Maps.has_false_of_atKey hat2
    rw [hrun, e1, e3]
    try (cases c <;> rfl)
  · rw [← hD] at hat2
    obtain ⟨n, hv, hd⟩ := intR_inv (show intR e0.val = some (y.1, y.2) from hRv)
    have e1 := hat2 (.lit (.int .i64 0))
    rw [hat, hd] at e1
    have e1 : getK K k = n := by injection e1 with e1; injection e1
    have e3 : hasK K k = true := by rw [← hha]; exact Maps.has_true_of_atKey hat2
    rw [hrun, hv, e1, e3]
    try (cases c <;> rfl)
theorem MI.put (h : MI w mb K) (hn : K.length < maxLen) (k : ByteArray) (hs : k.size ≤ maxLen) (v : Int) : ∃ w', (Instr.mapUpdate 65 (.map (some mb)) (.string k) (.int .i64 v)).run Try.prog w = .ok () w' ∧ MI w' mb ((k, v) :: dropK K k) ∧ w.grownBy w' (some mb) := by
  obtain ⟨es, h1, h2, h3⟩ := h
  have hkey : keyOf Try.prog 9 (.string k) = some (skey k) := keyOf_string_mk Try.underlying9 hs
  obtain ⟨w', hrun, ho, hg⟩ := h1.update law9 Try.underlying65 hn hkey (show intR (.int .i64 v) = some (.lit (.int .i64 v), []) from rfl)
  have hp : (DataW.insert (skey k, (.lit (.int .i64 v) : DataW Unit)) (es.filter fun p => !p.1.sameKey (skey k))).Perm (((k, v) :: dropK K k).map ent) := by
    rw [List.map_cons]
    exact (ins_perm _ _).trans ((ent_filter h2 k).cons _)
  refine ⟨w', hrun, ⟨_, ?_, hp, h3.put k v⟩, hg⟩
  have hz := own_size ho
  have hz2 : Maps.size ((DataW.map es).put (skey k) (.lit (.int .i64 v))) = ((k, v) :: dropK K k).length := by
    show (DataW.insert _ _).length = _
    rw [hp.length_eq, List.length_map]
  rw [hz2] at hz
  exact hz
theorem MI.del (h : MI w mb K) (k : ByteArray) (hs : k.size ≤ maxLen) (ty : TypeId) : ∃ w', (Builtin.delete_ #[65, 9] ty #[.map (some mb), .string k]).run Try.prog w = .ok (.tuple #[]) w' ∧ MI w' mb (dropK K k) ∧ w.grownBy w' (some mb) := by
  obtain ⟨es, h1, h2, h3⟩ := h
  have hkey : keyOf Try.prog 9 (.string k) = some (skey k) := keyOf_string_mk Try.underlying9 hs
  obtain ⟨w', hrun, ho, hg⟩ := h1.drop law9 Try.underlying65 hkey ty
  have hp := ent_filter h2 k
  refine ⟨w', hrun, ⟨_, ?_, hp, h3.dropK k⟩, hg.grown⟩
  have hz := own_size ho
  have hz2 : Maps.size ((DataW.map es).del (skey k)) = (dropK K k).length := by
    show (es.filter _).length = _
    rw [hp.length_eq, List.length_map]
  rw [hz2] at hz
  exact hz
theorem MI.len_run (h : MI w mb K) (ty : TypeId) : (Builtin.len_ #[65] ty #[.map (some mb)]).run Try.prog w = .ok (.int .i64 (K.length : Nat)) w := by
  obtain ⟨es, h1, h2, h3⟩ := h
  have := h1.len Try.underlying65 ty
  rw [show Maps.size (DataW.map es) = K.length from by show es.length = _; rw [h2.length_eq, List.length_map]] at this
  exact this
end
end Go.Proofs.Ytehlhaddbfjllaa.Mp
