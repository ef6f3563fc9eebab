/- What the law TrieFits uses, thinned: printed by shake2.py. -/
import Derived.Test.YtipbigdpannlcaaTTrieFitsOTA
import Derived.Maps.OwnSet
import Derived.DeepKeys4
import Derived.Maps.Keyed
namespace Go.Proofs.Ytipbigdpannlcaa.Tr
open Go.RowKit Go.Proofs.YtipbigdpannlcaaW.PrintWords Go.Proofs.YtipbigdpannlcaaW.PrintLast Go.Maps Go.WideMaps
set_option maxRecDepth 100000
set_option linter.unusedVariables false
set_option linter.unusedSectionVars false
section plain
variable {κ ν : Type} [DecidableEq κ]
def dropK (K : List (κ × ν)) (k : κ) : List (κ × ν) := K.filter fun c => decide (c.1 ≠ k)
def getK (z : ν) (K : List (κ × ν)) (k : κ) : ν := match K.find? (fun c => decide (c.1 = k)) with | some c => c.2 | none => z
def hasK (K : List (κ × ν)) (k : κ) : Bool := K.any fun c => decide (c.1 = k)
def ND (K : List (κ × ν)) : Prop := (K.map (·.1)).Nodup
theorem hasK_iff (K : List (κ × ν)) (k : κ) : hasK K k = true ↔ ∃ c ∈ K, c.1 = k := by
  unfold hasK
  rw [List.any_eq_true]
  exact ⟨fun ⟨c, hc, e⟩ => ⟨c, hc, of_decide_eq_true e⟩, fun ⟨c, hc, e⟩ => ⟨c, hc, decide_eq_true e⟩⟩
theorem nd_uniq : ∀ {K : List (κ × ν)}, ND K → ∀ {c d : κ × ν}, c ∈ K → d ∈ K → c.1 = d.1 → c = d
  | [], _, _, _, h, _, _ => by cases h
  | x :: t, hn, c, d, hc, hd, e => by
    unfold ND at hn
    rw [List.map_cons, List.nodup_cons] at hn
    rcases List.mem_cons.1 hc with h1 | h1
    · rcases List.mem_cons.1 hd with h2 | h2
      · exact h1.trans h2.symm
      · exact absurd (show x.1 ∈ t.map (·.1) from List.mem_map.2 ⟨d, h2, by rw [← e, h1]⟩) hn.1
    · rcases List.mem_cons.1 hd with h2 | h2
      · exact absurd (show x.1 ∈ t.map (·.1) from List.mem_map.2 ⟨c, h1, by rw [e, h2]⟩) hn.1
      · exact nd_uniq hn.2 h1 h2 e
theorem getK_of {z : ν} {K : List (κ × ν)} (hn : ND K) {c : κ × ν} (hc : c ∈ K) : getK z K c.1 = c.2 := by
  unfold getK
  cases h : K.find? (fun d => decide (d.1 = c.1)) with
  | none => exact absurd (decide_eq_true (rfl : c.1 = c.1)) (by simpa using List.find?_eq_none.1 h c hc)
  | some d =>
    have h1 : decide (d.1 = c.1) = true := List.find?_some (p := fun d : κ × ν => decide (d.1 = c.1)) h
    have h2 := List.mem_of_find?_eq_some h
    rw [nd_uniq hn h2 hc (of_decide_eq_true h1)]
theorem getK_no {z : ν} {K : List (κ × ν)} {k : κ} (h : hasK K k = false) : getK z K k = z := by
  unfold getK
  cases h1 : K.find? (fun d => decide (d.1 = k)) with
  | none => rfl
  | some d =>
    have := (hasK_iff K k).2 ⟨d, List.mem_of_find?_eq_some h1, of_decide_eq_true (List.find?_some (p := fun d : κ × ν => decide (d.1 = k)) h1)⟩
    rw [h] at this; cases this
theorem mem_dropK {K : List (κ × ν)} {k : κ} {c : κ × ν} : c ∈ dropK K k ↔ c ∈ K ∧ c.1 ≠ k := by
  unfold dropK
  rw [List.mem_filter]
  exact ⟨fun ⟨a, b⟩ => ⟨a, of_decide_eq_true b⟩, fun ⟨a, b⟩ => ⟨a, decide_eq_true b⟩⟩
theorem ND.dropK {K : List (κ × ν)} (h : ND K) (k : κ) : ND (dropK K k) := h.sublist ((List.filter_sublist (l := K)).map _)
theorem ND.put {K : List (κ × ν)} (h : ND K) (k : κ) (v : ν) : ND ((k, v) :: Tr.dropK K k) := by
  unfold ND
  rw [List.map_cons, List.nodup_cons]
  refine ⟨fun hm => ?_, h.dropK k⟩
  obtain ⟨c, hc, e⟩ := List.mem_map.1 hm
  exact (mem_dropK.1 hc).2 e
theorem dropK_len (K : List (κ × ν)) (k : κ) : (dropK K k).length ≤ K.length := List.length_filter_le _ _
theorem dropK_no {K : List (κ × ν)} {k : κ} (h : hasK K k = false) : dropK K k = K := List.filter_eq_self.2 fun c hc => decide_eq_true fun e => by
  have := (hasK_iff K k).2 ⟨c, hc, e⟩
  rw [h] at this; cases this
end plain
structure MTy (κ ν : Type) where
  kt : Nat
  mt : Nat
  et : Nat
  kv : κ → Value
  ev : ν → Value
  el : ν → Lit
  z : ν
  good : κ → Prop
  R : Value → Option (DataW Unit × List MemPlace)
  law : Keyed Try.prog kt
  und : Try.prog.underlying mt = some (.map kt et)
  key : ∀ k, good k → ∃ l, keyOf Try.prog kt (kv k) = some l
  inj : ∀ a b, kv a = kv b → a = b
  zero : ∀ w, (zeroValue et).run Try.prog w = .ok (ev z) w
  rof : ∀ x, R (ev x) = some (.lit (el x), [])
  rinv : ∀ {v d ps}, R v = some (d, ps) → ∃ x, v = ev x ∧ d = .lit (el x)
  elinj : ∀ {x y}, el x = el y → x = y
section
variable {κ ν : Type} [DecidableEq κ] (m : MTy κ ν)
noncomputable def MTy.lit (k : κ) : Lit := (keyOf Try.prog m.kt (m.kv k)).getD (.string [])
theorem MTy.litOf {k : κ} (h : m.good k) : keyOf Try.prog m.kt (m.kv k) = some (m.lit k) := by
  obtain ⟨l, hl⟩ := m.key k h
  unfold MTy.lit
  rw [hl]; rfl
theorem MTy.same {a b : κ} (ha : m.good a) (hb : m.good b) : (m.lit a).sameKey (m.lit b) = decide (a = b) := by
  by_cases h : a = b
  · subst h
    rw [decide_eq_true rfl]
    exact WideAt.sameKey_self (m.law.key (m.litOf ha))
  · rw [decide_eq_false h]
    refine sameKey_ne fun e => h (m.inj _ _ (m.law.inj (m.litOf ha) ?_))
    rw [e]; exact m.litOf hb
noncomputable def MTy.ent (c : κ × ν) : Lit × DataW Unit := (m.lit c.1, .lit (m.el c.2))
noncomputable def MI (w : World) (mb : Nat) (K : List (κ × ν)) : Prop := ∃ es, w.ownsMap Try.prog m.kt m.R mb K.length (.map es) ∧ es.Perm (K.map m.ent) ∧ ND K ∧ ∀ c ∈ K, m.good c.1
theorem own_size {m : MTy κ ν} {w : World} {mb n : Nat} {D : DataW Unit} (h : w.ownsMap Try.prog m.kt m.R mb n D) : w.ownsMap Try.prog m.kt m.R mb (Maps.size D) D := by
  obtain ⟨es, clock, hb, F, hs, rfl⟩ := h
  exact ⟨es, clock, hb, F, by simp [Maps.size, length_sorted], rfl⟩
theorem ins_perm (x : Lit × DataW Unit) : ∀ l : List (Lit × DataW Unit), (DataW.insert x l).Perm (x :: l)
  | [] => List.Perm.refl _
  | y :: r => by
    unfold DataW.insert
    split
    · exact List.Perm.refl _
    · exact ((ins_perm x r).cons y).trans (List.Perm.swap _ _ _)
variable {m}
theorem ent_has {es : List (Lit × DataW Unit)} {K : List (κ × ν)} (hp : es.Perm (K.map m.ent)) (hg : ∀ c ∈ K, m.good c.1) {k : κ} (hk : m.good k) : Maps.has (.map es) (m.lit k) = hasK K k := by
  rw [Maps.has_eq, hp.any_eq, Bool.eq_iff_iff, hasK_iff, List.any_eq_true]
  constructor
  · rintro ⟨p, hp', e⟩
    obtain ⟨c, hc, rfl⟩ := List.mem_map.1 hp'
    rw [show (m.ent c).1 = m.lit c.1 from rfl, m.same (hg c hc) hk] at e
    exact ⟨c, hc, of_decide_eq_true e⟩
  · rintro ⟨c, hc, e⟩
    refine ⟨m.ent c, List.mem_map.2 ⟨c, hc, rfl⟩, ?_⟩
    rw [show (m.ent c).1 = m.lit c.1 from rfl, m.same (hg c hc) hk]
    exact decide_eq_true e
theorem ent_at {es : List (Lit × DataW Unit)} {K : List (κ × ν)} (hn : ND K) (hp : es.Perm (K.map m.ent)) (hg : ∀ c ∈ K, m.good c.1) {k : κ} (hk : m.good k) : DataW.atKey (.map es) (m.lit k) (.lit (m.el m.z)) = .lit (m.el (getK m.z K k)) := by
  unfold DataW.atKey
  dsimp only
  cases h : es.find? (fun p => p.1.sameKey (m.lit k)) with
  | none =>
    have hh : hasK K k = false := by
      cases e : hasK K k with
      | false => rfl
      | true =>
        obtain ⟨c, hc, rfl⟩ := (hasK_iff K k).1 e
        have := List.find?_eq_none.1 h _ (hp.mem_iff.2 (List.mem_map.2 ⟨c, hc, rfl⟩))
        rw [show (m.ent c).1 = m.lit c.1 from rfl, m.same (hg c hc) hk] at this
        simp at this
    rw [getK_no hh]
  | some p =>
    obtain ⟨c, hc, rfl⟩ := List.mem_map.1 (hp.mem_iff.1 (List.mem_of_find?_eq_some h))
    have h1 := List.find?_some h
    rw [show (m.ent c).1 = m.lit c.1 from rfl, m.same (hg c hc) hk] at h1
    obtain rfl := of_decide_eq_true h1
    rw [getK_of hn hc]
    rfl
theorem ent_filter {es : List (Lit × DataW Unit)} {K : List (κ × ν)} (hp : es.Perm (K.map m.ent)) (hg : ∀ c ∈ K, m.good c.1) {k : κ} (hk : m.good k) : (es.filter fun p => !p.1.sameKey (m.lit k)).Perm ((dropK K k).map m.ent) := by
  refine (hp.filter _).trans (List.Perm.of_eq ?_)
  rw [List.filter_map]
  unfold dropK
  congr 1
  refine List.filter_congr fun c hc => ?_
  show (!(m.lit c.1).sameKey (m.lit k)) = decide (c.1 ≠ k)
  rw [m.same (hg c hc) hk]
  by_cases h : c.1 = k <;> simp [h]
variable {w w1 : World} {mb : Nat} {K K' : List (κ × ν)}
theorem MI.nd (h : MI m w mb K) : ND K := by obtain ⟨es, h1, h2, h3, h4⟩ := h; exact h3
theorem MI.frm (h : MI m w mb K) (hb : w1.heap[mb]? = w.heap[mb]?) : MI m w1 mb K := by
  obtain ⟨es, ⟨e2, clock, hb', r⟩, h2, h3⟩ := h
  exact ⟨es, ⟨e2, clock, hb.trans hb', r⟩, h2, h3⟩
theorem MI.blk (h : MI m w mb K) : ∃ es c, w.heap[mb]? = some (.map es c) := by
  obtain ⟨es, ⟨e2, clock, hb', r⟩, h2, h3⟩ := h
  exact ⟨_, _, hb'⟩
theorem MI.lt (h : MI m w mb K) : mb < w.heap.size := by
  obtain ⟨e, c, hb⟩ := h.blk
  exact blk_lt hb
theorem MI.made (w : World) : MI m (w.alloc (.map #[] 0)) w.heap.size [] := ⟨[], World.ownsMap_made w _ _ _, List.Perm.refl _, List.nodup_nil, fun c hc => by cases hc⟩
theorem MI.look (h : MI m w mb K) {k : κ} (hk : m.good k) (c : Bool) : (Instr.lookup m.mt (.map (some mb)) (m.kv k) c).run Try.prog w = .ok (if c then .tuple #[m.ev (getK m.z K k), .bool (hasK K k)] else m.ev (getK m.z K k)) w := by
  obtain ⟨es, h1, h2, h3, h4⟩ := h
  have hkey := m.litOf hk
  have ho := h1
  obtain ⟨e2, clock, hb, F, hs2, hD⟩ := ho
  have hat := ent_at h3 h2 h4 hk
  have hha := ent_has h2 h4 hk
  rcases Maps.fit_look c m.law m.und (m.zero w) hb F hkey with ⟨hrun, _, hat2⟩ | ⟨e0, y, _, _, hrun, hRv, hat2, _⟩
  · rw [← hD] at hat2
    have e1 := hat2 (.lit (m.el m.z))
    rw [hat] at e1
    have e1 : getK m.z K k = m.z := by injection e1 with e1; exact m.elinj e1
    have e3 : hasK K k = false := by rw [← hha]; exact Maps.has_false_of_atKey hat2
    rw [hrun, e1, e3]
    try (cases c <;> rfl)
  · rw [← hD] at hat2
    obtain ⟨n, hv, hd⟩ := m.rinv (show m.R e0.val = some (y.1, y.2) from hRv)
    have e1 := hat2 (.lit (m.el m.z))
    rw [hat, hd] at e1
    have e1 : getK m.z K k = n := by injection e1 with e1; exact m.elinj e1
    have e3 : hasK K k = true := by rw [← hha]; exact Maps.has_true_of_atKey hat2
    rw [hrun, hv, e1, e3]
    try (cases c <;> rfl)
theorem MI.put (h : MI m w mb K) (hn : K.length < maxLen) {k : κ} (hk : m.good k) (v : ν) : ∃ w', (Instr.mapUpdate m.mt (.map (some mb)) (m.kv k) (m.ev v)).run Try.prog w = .ok () w' ∧ MI m w' mb ((k, v) :: dropK K k) ∧ w.grownBy w' (some mb) := by
  obtain ⟨es, h1, h2, h3, h4⟩ := h
  have hkey := m.litOf hk
  obtain ⟨w', hrun, ho, hg⟩ := h1.update m.law m.und hn hkey (m.rof v)
  have hp : (DataW.insert (m.lit k, (.lit (m.el v) : DataW Unit)) (es.filter fun p => !p.1.sameKey (m.lit k))).Perm (((k, v) :: dropK K k).map m.ent) := by
    rw [List.map_cons]
    exact (ins_perm _ _).trans ((ent_filter h2 h4 hk).cons _)
  refine ⟨w', hrun, ⟨_, ?_, hp, h3.put k v, fun c hc => ?_⟩, hg⟩
  · have hz := own_size ho
    have hz2 : Maps.size ((DataW.map es).put (m.lit k) (.lit (m.el v))) = ((k, v) :: dropK K k).length := by
      show (DataW.insert _ _).length = _
      rw [hp.length_eq, List.length_map]
    rw [hz2] at hz
    exact hz
  · rcases List.mem_cons.1 hc with rfl | hc
    · exact hk
    · exact h4 c (mem_dropK.1 hc).1
end
def intR : Value → Option (DataW Unit × List MemPlace)
  | .int .i64 n => some (.lit (.int .i64 n), [])
  | _ => none
theorem intR_inv {v : Value} {d : DataW Unit} {ps : List MemPlace} (h : intR v = some (d, ps)) : ∃ n, v = .int .i64 n ∧ d = .lit (.int .i64 n) := by
  unfold intR at h
  split at h
  · rename_i n
    simp only [Option.some.injEq, Prod.mk.injEq] at h
    exact ⟨n, rfl, h.1.symm⟩
  · cases h
def boolR : Value → Option (DataW Unit × List MemPlace)
  | .bool n => some (.lit (.bool n), [])
  | _ => none
theorem boolR_inv {v : Value} {d : DataW Unit} {ps : List MemPlace} (h : boolR v = some (d, ps)) : ∃ n, v = .bool n ∧ d = .lit (.bool n) := by
  unfold boolR at h
  split at h
  · rename_i n
    simp only [Option.some.injEq, Prod.mk.injEq] at h
    exact ⟨n, rfl, h.1.symm⟩
  · cases h
def mSB : MTy ByteArray Bool where
  kt := 9
  mt := 81
  et := 4
  kv := .string
  ev := .bool
  el := .bool
  z := false
  good k := k.size ≤ maxLen
  R := boolR
  law := string_keyed Try.underlying9
  und := Try.underlying81
  key k h := ⟨_, keyOf_string_mk Try.underlying9 h⟩
  inj a b h := by injection h
  zero w := by kernel_rfl
  rof x := rfl
  rinv h := boolR_inv h
  elinj h := by injection h
def mSI : MTy ByteArray Int where
  kt := 9
  mt := 67
  et := 3
  kv := .string
  ev := .int .i64
  el := .int .i64
  z := 0
  good k := k.size ≤ maxLen
  R := intR
  law := string_keyed Try.underlying9
  und := Try.underlying67
  key k h := ⟨_, keyOf_string_mk Try.underlying9 h⟩
  inj a b h := by injection h
  zero w := by kernel_rfl
  rof x := rfl
  rinv h := intR_inv h
  elinj h := by injection h
structure Step where
  from_ : Int
  key : ByteArray
  val : ByteArray
  any : Bool
instance : DecidableEq Step := fun a b => decidable_of_iff (a.from_ = b.from_ ∧ a.key = b.key ∧ a.val = b.val ∧ a.any = b.any) (by cases a; cases b; simp)
def Step.v (s : Step) : Value := .agg #[.int .i64 s.from_, .string s.key, .string s.val, .bool s.any]
theorem laidOut : laidOutB Try.prog = true := by kernel_rfl
theorem lawStep : KeyLaw Try.prog 72 := deep_law_laid laidOut (m := 2) (by omega) (of_decide_eq_true (by kernel_rfl)) (by kernel_rfl) (by kernel_rfl)
structure Step.Good (s : Step) : Prop where
  f : (Lit.int .i64 s.from_).wf = true
  k : s.key.size ≤ maxLen
  v : s.val.size ≤ maxLen
theorem cellsStep : Try.prog.cellsOf 72 = 4 := by kernel_rfl
theorem formedStep (s : Step) : s.v.formed Try.prog 72 = true := by
  obtain ⟨fs, hu⟩ : ∃ fs, Try.prog.underlying 72 = some (.struct fs) := ⟨_, Try.underlying72⟩
  simp [Value.formed, hu, cellsStep, Step.v]
theorem keyStep (s : Step) (h : s.Good) : ∃ l, keyOf Try.prog 72 s.v = some l := by
  obtain ⟨d, hd⟩ : ∃ d, Try.prog.types.size + 1 = d + 1 + 1 := by
    have : 1 < Try.prog.types.size := of_decide_eq_true (by kernel_rfl)
    exact ⟨Try.prog.types.size - 1, by omega⟩
  have c1 : Try.prog.cellsOf 3 = 1 := by kernel_rfl
  have c2 : Try.prog.cellsOf 9 = 1 := by kernel_rfl
  have c3 : Try.prog.cellsOf 4 = 1 := by kernel_rfl
  have kt : Try.prog.keyType 72 = true := by kernel_rfl
  have hf := h.f
  have hk := h.k
  have hv := h.v
  unfold keyOf
  rw [Try.underlying72]
  simp only []
  rw [kt, formedStep, hd]
  clear hd kt
  rw [Bool.and_self, if_pos rfl]
  have e : Try.prog.keyLits (d + 1 + 1) 72 s.v.cells.toList = some [.int .i64 s.from_, .string s.key.data.toList, .string s.val.data.toList, .bool s.any] := by
    simp only [Program.keyLits, Try.underlying72, cellsStep, Step.v, Value.cells]
    rw [if_pos ⟨rfl, by decide +kernel⟩]
    simp [Try.underlying3, Try.underlying9, Try.underlying4, c1, c2, c3, hf, hk, hv, List.mapM_cons]
  rw [e]
  exact ⟨_, rfl⟩
def mWI : MTy Step Int where
  kt := 72
  mt := 68
  et := 3
  kv := Step.v
  ev := .int .i64
  el := .int .i64
  z := 0
  good := Step.Good
  R := intR
  law := Keyed.of_law lawStep
  und := Try.underlying68
  key := keyStep
  inj a b h := by
    obtain ⟨_, _, _, _⟩ := a
    obtain ⟨_, _, _, _⟩ := b
    simpa [Step.v] using h
  zero w := by kernel_rfl
  rof x := rfl
  rinv h := intR_inv h
  elinj h := by injection h
end Go.Proofs.Ytipbigdpannlcaa.Tr
