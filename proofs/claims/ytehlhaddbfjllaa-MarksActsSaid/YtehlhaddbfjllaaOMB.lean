/- Maps of texts to numbers, and what counts in them: a part of the proof. -/
import Derived.Test.YtehlhaddbfjllaaOMA
import Derived.Sort.OwnSorted
namespace Go.Proofs.Ytehlhaddbfjllaa.Mp
open Go.RowKit Go.Sort Go.Proofs.YtehlhaddbfjllaaW.PrintWords Go.Proofs.YtehlhaddbfjllaaW.PrintLast Go.Maps Go.WideMaps
set_option maxRecDepth 100000
set_option linter.unusedVariables false
/-! A row of the call's own, sorted by the library: at any one-cell element. -/
section
variable {α : Type} [Inhabited α] (enc : α → Value)
theorem holds_gen {w : World} {g : Nat} {cur : Array Value} {e : TypeId} {ss : List α} (hb : w.heap[g]? = some (.cells cur e (0, 0))) (ht : cur.toList.take ss.length = ss.map enc) : Holds enc w g 0 ss.toArray := by
  intro j hj
  have hj' : j < ss.length := by simpa using hj
  refine ⟨?_, by simp [World.frozen?, hb]⟩
  have h1 : (cur.toList.take ss.length)[j]? = (ss.map enc)[j]? := by rw [ht]
  rw [List.getElem?_take_of_lt hj'] at h1
  simp only [World.cell?, hb, Nat.zero_add]
  simp only [Option.isSome_none, Bool.false_eq_true, if_false]
  rw [← Array.getElem?_toList, h1]
  simp [hj']
theorem heap_gen {w : World} {g n : Nat} {os : Array Obj} {cur : Array Value} {e : TypeId} {fr : Nat × Nat} (d : Array α) (hb : w.heap[g]? = some (.cells cur e fr)) :
    (grow (putRow enc (Sort.ahead w n) g 0 d) os).heap[g]? = some (.cells (putCells enc 0 d cur) e fr) := by
  have hg : g < w.heap.size := (Array.getElem?_eq_some_iff.1 hb).1
  rw [heap_grow_old _ _ (by simpa using hg)]
  simp [putRow, mapBlock, Sort.ahead, Array.getElem?_modify, hb, onCells]
theorem grown_gen {w : World} {g n : Nat} {os : Array Obj} (d : Array α) : w.grownBy (grow (putRow enc (Sort.ahead w n) g 0 d) os) (some g) := by
  refine ⟨rfl, rfl, rfl, by simp, fun k hk hne => ?_⟩
  rw [heap_grow_old _ _ (by simpa using hk)]
  have : g ≠ k := fun e => hne (by rw [e])
  simp [putRow, mapBlock, Sort.ahead, Array.getElem?_modify, this]
theorem take_gen (cur : Array Value) (ts : List α) (h : ts.length ≤ cur.size) : (putCells enc 0 ts.toArray cur).toList.take ts.length = ts.map enc := by
  apply List.ext_getElem?
  intro j
  by_cases hj : j < ts.length
  · rw [List.getElem?_take_of_lt hj, Array.getElem?_toList]
    simp [putCells, hj, show j < cur.size by omega]
  · rw [List.getElem?_take_eq_none (by omega), List.getElem?_eq_none (by simp; omega)]
theorem owns_gen {w : World} {base g cap n : Nat} {e : TypeId} {os : Array Obj} {cur : Array Value} {k : Nat} {ts : List α} (hl : ts.length = k) (hbase : base ≤ g) (hb : w.heap[g]? = some (.cells cur e (0, 0)))
    (h1 : k ≤ cap) (h2 : cap ≤ maxLen) (h3 : cur.size = cap * 1) :
    (grow (putRow enc (Sort.ahead w n) g 0 ts.toArray) os).ownsRow base e 1 (.slice (some ⟨g, 0, none⟩) k cap) k (ts.map enc) :=
  ⟨by simp [hl], .inr ⟨g, cap, _, rfl, hbase, heap_gen enc _ hb, h1, h2, by simp [putCells, h3], by rw [Nat.mul_one, ← hl]; exact take_gen enc cur ts (by omega)⟩⟩
end
/-! The order of marks: what ends first, and of these the name that comes first. -/
def ltM (K : List KV) (x y : ByteArray) : Prop := getK K x < getK K y ∨ (getK K x = getK K y ∧ x.data.toList < y.data.toList)
theorem ltM_irrefl (K : List KV) (x : ByteArray) : ¬ ltM K x x := fun h => by
  rcases h with h | ⟨_, h⟩
  · omega
  · exact List.lt_irrefl _ h
theorem ltM_trans {K : List KV} {x y z : ByteArray} (h : ltM K x y) (k : ltM K y z) : ltM K x z := by
  rcases h with h | ⟨h1, h2⟩ <;> rcases k with k | ⟨k1, k2⟩
  · exact .inl (by omega)
  · exact .inl (by omega)
  · exact .inl (by omega)
  · exact .inr ⟨h1.trans k1, List.lt_trans h2 k2⟩
theorem ltM_total {K : List KV} {x y : ByteArray} (h : ¬ ltM K x y) (k : ¬ ltM K y x) : x = y := by
  have h1 : ¬ getK K x < getK K y := fun e => h (.inl e)
  have h2 : ¬ getK K y < getK K x := fun e => k (.inl e)
  have h3 : getK K x = getK K y := by omega
  have h4 : ¬ x.data.toList < y.data.toList := fun e => h (.inr ⟨h3, e⟩)
  have h5 : ¬ y.data.toList < x.data.toList := fun e => k (.inr ⟨h3.symm, e⟩)
  have h6 : y.data.toList ≤ x.data.toList := h4
  rcases List.le_iff_lt_or_eq.1 h6 with h7 | h7
  · exact absurd h7 h5
  · exact ByteArray.ext (Array.toList_inj.1 h7.symm)
theorem cmpM_lt (K : List KV) (x y : ByteArray) : cmpM K x y < 0 ↔ ltM K x y := by
  unfold cmpM cmpI cmpS ltM
  by_cases h1 : getK K x < getK K y
  · simp [h1]
  · by_cases h2 : getK K y < getK K x
    · have : ¬ getK K x = getK K y := by omega
      simp [h1, h2, this]
    · have h3 : getK K x = getK K y := by omega
      by_cases h4 : x.data.toList < y.data.toList
      · simp [h3, h4]
      · by_cases h5 : y.data.toList < x.data.toList <;> simp [h3, h4, h5]
abbrev KS := {b : ByteArray // b.size ≤ 1000}
instance : Inhabited KS := ⟨⟨⟨#[]⟩, by decide⟩⟩
def encK (x : KS) : Value := .string x.1
def cfM (K : List KV) (x y : KS) : Int := cmpM K x.1 y.1
theorem ltOf_iff (K : List KV) (x y : KS) : ltOf (cfM K) x y = true ↔ ltM K x.1 y.1 := by
  unfold ltOf cfM
  rw [decide_eq_true_iff]
  exact cmpM_lt K x.1 y.1
theorem ltOf_no (K : List KV) (x y : KS) : ltOf (cfM K) x y = false ↔ ¬ ltM K x.1 y.1 := by
  rw [← ltOf_iff K x y]
  simp
theorem swoM (K : List KV) : SWO (ltOf (cfM K)) := by
  refine ⟨fun x => (ltOf_no K x x).2 (ltM_irrefl K _), fun x y z h k => (ltOf_iff K x z).2 (ltM_trans ((ltOf_iff K x y).1 h) ((ltOf_iff K y z).1 k)), fun x y z h k => (ltOf_no K x z).2 fun e => ?_⟩
  have h := (ltOf_no K x y).1 h
  have k := (ltOf_no K y z).1 k
  by_cases e1 : ltM K y x
  · exact k (ltM_trans e1 e)
  · have := ltM_total h e1
    rw [this] at e
    exact k e
theorem totM (K : List KV) (x y : KS) (h : ltOf (cfM K) x y = false) (k : ltOf (cfM K) y x = false) : x = y := Subtype.ext (ltM_total ((ltOf_no K x y).1 h) ((ltOf_no K y x).1 k))
theorem ks_of : ∀ {ss : List (List UInt8)}, (∀ l ∈ ss, l.length ≤ 1000) → ∃ ks : List KS, ks.map (fun x => x.1.data.toList) = ss
  | [], _ => ⟨[], rfl⟩
  | l :: t, h => by
    obtain ⟨ks, e⟩ := ks_of (ss := t) fun l hl => h l (List.mem_cons_of_mem _ hl)
    exact ⟨⟨⟨l.toArray⟩, by show l.toArray.size ≤ 1000; rw [List.size_toArray]; exact h l List.mem_cons_self⟩ :: ks, by rw [List.map_cons, e]⟩
theorem enc_ks (ks : List KS) : (ks.map fun x => x.1.data.toList).map encStr = ks.map encK := by
  rw [List.map_map]
  refine List.map_congr_left fun x _ => ?_
  show Value.string ⟨x.1.data.toList.toArray⟩ = .string x.1
  rfl
set_option maxHeartbeats 1000000 in
theorem coll_any {w : World} {mb : Nat} {K : List KV} (h : MI w mb K) (hK : K.length ≤ 1000000) : Calls Try.prog 56 #[.func (.func 64) #[] #[.pointer (some ⟨w.heap.size, 0, none⟩)]] (w.alloc (.cells #[.map (some mb)] 65)) fun e w' => ∃ (v : Value) (ss : List (List UInt8)), e = .returned v ∧ ss.Perm (keysK K) ∧ w'.ownsRow (w.alloc (.cells #[.map (some mb)] 65)).heap.size 9 1 v ss.length (ss.map encStr) ∧ Frm (fun _ => False) w w' := by
  refine (callsIn_wide.1 (AnyZ.collect_in Try.coll56 Fence.wide 4 trivial trivial rfl (by omega) 64 #[.pointer (some ⟨w.heap.size, 0, none⟩)] trivial (enters_of Try.func64 (by kernel_rfl) rfl) _ _ (by unfold maxLen; omega) (by omega) _ (seq_gives h))).mono ?_
  rintro e w' ⟨v, ss, rfl, hS, hrow, hnil, hb⟩
  exact ⟨v, ss, rfl, hS, hrow, ((Frm.refl _ w).alloc _).trans (Frm.of_below hb)⟩
end Go.Proofs.Ytehlhaddbfjllaa.Mp
