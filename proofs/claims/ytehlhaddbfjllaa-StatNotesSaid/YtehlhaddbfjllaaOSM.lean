/- Maps of texts to numbers, and what counts in them: a part of the proof. -/
import Derived.Test.YtehlhaddbfjllaaOSI
namespace Go.Proofs.Ytehlhaddbfjllaa.Mp
open Go.RowKit Go.Sort Go.Proofs.YtehlhaddbfjllaaW.PrintWords Go.Proofs.YtehlhaddbfjllaaW.PrintLast Go.Proofs.YtehlhaddbfjllaaW.PrintMore Go.Proofs.Ytehlhaddbfjllaa.PStatActs
set_option maxRecDepth 100000
set_option linter.unusedVariables false
set_option linter.unusedSimpArgs false
/-! What stands under a name after many adds: the sum. -/
def sumK (j : ByteArray) : List KV → Int
  | [] => 0
  | c :: t => (if c.1 = j then c.2 else 0) + sumK j t
theorem sumK_app (j : ByteArray) (l m : List KV) : sumK j (l ++ m) = sumK j l + sumK j m := by
  induction l with
  | nil => simp [sumK]
  | cons c t ih => rw [List.cons_append, sumK, sumK, ih]; omega
theorem nadd_plain {x y : Int} (hx : 0 ≤ x) (hy : 0 ≤ y) (h : x + y ≤ 4611686018427387904) : nadd x y = x + y := by
  unfold nadd
  have e : ∀ x, 0 ≤ x → x ≤ 4611686018427387904 → hold x = x := fun x a b => by unfold hold; omega
  rw [e x hx (by omega), e y hy (by omega)]
  split <;> omega
theorem getK_addK {K : List KV} {k j : ByteArray} {n B : Int} (hB : ∀ k, 0 ≤ getK K k ∧ getK K k ≤ B) (hn : 0 ≤ n) (hs : B + n ≤ 4611686018427387904) : getK (addK K k n) j = getK K j + if k = j then n else 0 := by
  unfold addK
  split
  · by_cases e : k = j
    · subst e
      have := hB k
      rw [getK_cons_eq, if_pos rfl, nadd_plain this.1 hn (by omega)]
    · rw [getK_cons_ne (c := (k, nadd (getK K k) n)) e, getK_drop e, if_neg e, Int.add_zero]
  · have : n = 0 := by omega
    subst this
    split <;> omega
theorem getK_addsK {M : Int} : ∀ (l : List KV) (K : List KV) (B : Int), (∀ k, 0 ≤ getK K k ∧ getK K k ≤ B) → (∀ c ∈ l, 0 ≤ c.2 ∧ c.2 ≤ M) → 0 ≤ M → B + l.length * M ≤ 4611686018427387904 → ∀ j, getK (addsK K l) j = getK K j + sumK j l := by
  intro l
  induction l with
  | nil => intro K B _ _ _ _ j; show getK K j = getK K j + 0; omega
  | cons c t ih =>
    intro K B hB hl hM hs j
    have hc := hl c (List.mem_cons_self ..)
    have hlen : (((c :: t).length : Nat) : Int) * M = t.length * M + M := by rw [List.length_cons]; push_cast; rw [Int.add_mul, Int.one_mul]
    rw [hlen] at hs
    have h0 : 0 ≤ (t.length : Int) * M := Int.mul_nonneg (by omega) hM
    rw [addsK_cons, ih (addK K c.1 c.2) (B + M) (fun k => by
      rw [getK_addK hB hc.1 (by omega)]
      have := hB k
      split <;> omega) (fun d hd => hl d (List.mem_cons_of_mem _ hd)) hM (by omega), getK_addK hB hc.1 (by omega), sumK]
    omega
theorem app_inj {p a b : ByteArray} (h : p ++ a = p ++ b) : a = b := by
  have h2 := congrArg (fun x : ByteArray => x.data.toList) h
  simp at h2
  exact ByteArray.ext h2
def okv (v : S51) : Prop := 0 ≤ v.f3 ∧ v.f3 ≤ 4294967295 ∧ 0 ≤ v.f4 ∧ v.f4 ≤ 4294967295 ∧ 0 ≤ v.f5 ∧ v.f5 ≤ 4294967295
def sumV : List S51 → Int
  | [] => 0
  | v :: t => (v.f3 + v.f4 + v.f5) + sumV t
theorem sumV_app (l m : List S51) : sumV (l ++ m) = sumV l + sumV m := by
  induction l with
  | nil => simp [sumV]
  | cons v t ih => rw [List.cons_append, sumV, sumV, ih]; omega
theorem sumV_take {l : List S51} {i : Nat} (hi : i < l.length) : sumV (l.take (i + 1)) = sumV (l.take i) + (l.getD i z51).f3 + (l.getD i z51).f4 + (l.getD i z51).f5 := by
  rw [List.take_add_one, List.getElem?_eq_getElem hi, sumV_app, List.getD_eq_getElem?_getD, List.getElem?_eq_getElem hi]
  show sumV _ + sumV [l[i]] = _ + (l[i]).f3 + (l[i]).f4 + (l[i]).f5
  rw [sumV, sumV]; omega
theorem sumV_rng : ∀ {l : List S51}, (∀ v ∈ l, okv v) → 0 ≤ sumV l ∧ sumV l ≤ (l.length : Int) * 12884901885 := by
  intro l
  induction l with
  | nil => intro _; exact ⟨Int.le_refl _, by simp [sumV]⟩
  | cons v t ih =>
    intro h
    have h1 := ih fun x hx => h x (List.mem_cons_of_mem _ hx)
    obtain ⟨a, b, c, d, e, f⟩ := h v (List.mem_cons_self ..)
    rw [sumV, List.length_cons]
    push_cast
    omega
theorem allV_ok {v : S51} (h : okv v) : allV v = v.f3 + v.f4 + v.f5 := by
  obtain ⟨a, b, c, d, e, f⟩ := h
  unfold allV
  rw [nadd_plain a c (by omega), nadd_plain (by omega) e (by omega)]
theorem note_rng {p : ByteArray} {v : S51} (h : okv v) (lc : Bool) : ∀ c ∈ noteA p v lc, 0 ≤ c.2 ∧ c.2 ≤ 12884901885 := by
  have ha := allV_ok h
  obtain ⟨a, b, c, d, e, f⟩ := h
  intro x hx
  unfold noteA at hx
  rw [ha] at hx
  have hx : x ∈ [(p ++ tTotal, v.f3 + v.f4 + v.f5), (p ++ tWithin, v.f3), (p ++ tNear, v.f4), (p ++ tOver, v.f5), (p ++ tShadow, v.f3 + v.f4 + v.f5), (p ++ tLocal, v.f3 + v.f4 + v.f5)] := by
    rcases List.mem_append.1 hx with h | h
    · rcases List.mem_append.1 h with h | h
      · simp only [List.mem_cons, List.not_mem_nil, or_false] at h ⊢
        rcases h with h | h | h | h <;> simp [h]
      · split at h
        · simp only [List.mem_cons, List.not_mem_nil, or_false] at h ⊢
          simp [h]
        · simp at h
    · split at h
      · simp only [List.mem_cons, List.not_mem_nil, or_false] at h ⊢
        simp [h]
      · simp at h
  simp only [List.mem_cons, List.not_mem_nil, or_false] at hx
  rcases hx with h | h | h | h | h | h <;> subst h <;> refine ⟨?_, ?_⟩ <;> simp only <;> omega
theorem sum_note {p : ByteArray} {v : S51} {lc : Bool} (h : okv v) : sumK (p ++ tTotal) (noteA p v lc) = v.f3 + v.f4 + v.f5 ∧ sumK (p ++ tWithin) (noteA p v lc) = v.f3 ∧ sumK (p ++ tNear) (noteA p v lc) = v.f4 ∧ sumK (p ++ tOver) (noteA p v lc) = v.f5 ∧ sumK (p ++ tLocal) (noteA p v lc) = if lc = true then v.f3 + v.f4 + v.f5 else 0 := by
  have ha := allV_ok h
  have ne : ∀ {a b : ByteArray}, a ≠ b → (p ++ a = p ++ b) = False := fun h => eq_false fun e => h (app_inj e)
  refine ⟨?_, ?_, ?_, ?_, ?_⟩ <;> unfold noteA <;> rw [sumK_app, sumK_app, ha] <;> split <;> split <;> simp only [sumK, ne (show tTotal ≠ tWithin by decide), ne (show tTotal ≠ tNear by decide), ne (show tTotal ≠ tOver by decide), ne (show tTotal ≠ tLocal by decide), ne (show tWithin ≠ tTotal by decide), ne (show tWithin ≠ tNear by decide), ne (show tWithin ≠ tOver by decide), ne (show tWithin ≠ tLocal by decide), ne (show tNear ≠ tTotal by decide), ne (show tNear ≠ tWithin by decide), ne (show tNear ≠ tOver by decide), ne (show tNear ≠ tLocal by decide), ne (show tOver ≠ tTotal by decide), ne (show tOver ≠ tWithin by decide), ne (show tOver ≠ tNear by decide), ne (show tOver ≠ tLocal by decide), ne (show tLocal ≠ tTotal by decide), ne (show tLocal ≠ tWithin by decide), ne (show tLocal ≠ tNear by decide), ne (show tLocal ≠ tOver by decide), ne (show tShadow ≠ tTotal by decide), ne (show tShadow ≠ tWithin by decide), ne (show tShadow ≠ tNear by decide), ne (show tShadow ≠ tOver by decide), ne (show tShadow ≠ tLocal by decide), if_true, if_false] <;> omega
/-- What the counts answer when all notes are in range. -/
theorem notes_law (p : ByteArray) (lc : Bool) : ∀ (l : List S51), (∀ v ∈ l, okv v) → sumK (p ++ tTotal) (l.flatMap fun v => noteA p v lc) = sumV l ∧ sumK (p ++ tWithin) (l.flatMap fun v => noteA p v lc) + sumK (p ++ tNear) (l.flatMap fun v => noteA p v lc) + sumK (p ++ tOver) (l.flatMap fun v => noteA p v lc) = sumV l ∧ sumK (p ++ tLocal) (l.flatMap fun v => noteA p v lc) = (if lc = true then sumV l else 0) ∧ 0 ≤ sumK (p ++ tWithin) (l.flatMap fun v => noteA p v lc) ∧ 0 ≤ sumK (p ++ tNear) (l.flatMap fun v => noteA p v lc) ∧ 0 ≤ sumK (p ++ tOver) (l.flatMap fun v => noteA p v lc) := by
  intro l
  induction l with
  | nil => intro _; refine ⟨rfl, rfl, ?_, Int.le_refl _, Int.le_refl _, Int.le_refl _⟩; cases lc <;> rfl
  | cons v t ih =>
    intro h
    obtain ⟨a, b, c, d, e, f⟩ := ih fun x hx => h x (List.mem_cons_of_mem _ hx)
    have hv := h v (List.mem_cons_self ..)
    obtain ⟨s1, s2, s3, s4, s5⟩ := sum_note (p := p) (lc := lc) hv
    rw [List.flatMap_cons, sumK_app, sumK_app, sumK_app, sumK_app, sumK_app, s1, s2, s3, s4, s5, sumV, a, c]
    obtain ⟨h1, h2, h3, h4, h5, h6⟩ := hv
    refine ⟨rfl, by omega, ?_, by omega, by omega, by omega⟩
    cases lc <;> simp
theorem flatN_len (p : ByteArray) (lc : Bool) (l : List S51) : (l.flatMap fun v => noteA p v lc).length ≤ 6 * l.length := by
  induction l with
  | nil => simp
  | cons x t ih => have := noteA_len p x lc; rw [List.flatMap_cons, List.length_append, List.length_cons]; omega
theorem flatN_rng {p : ByteArray} {lc : Bool} {l : List S51} (h : ∀ v ∈ l, okv v) : ∀ c ∈ l.flatMap fun v => noteA p v lc, 0 ≤ c.2 ∧ c.2 ≤ 12884901885 := by
  intro c hc
  obtain ⟨v, hv, hc⟩ := List.mem_flatMap.1 hc
  exact note_rng (h v hv) lc c hc
theorem flatN_take {p : ByteArray} {lc : Bool} {l : List S51} {i : Nat} (hi : i < l.length) : addsK [] ((l.take (i + 1)).flatMap fun v => noteA p v lc) = addsK (addsK [] ((l.take i).flatMap fun v => noteA p v lc)) (noteA p (l.getD i z51) lc) := by
  rw [List.take_add_one, List.getElem?_eq_getElem hi, List.flatMap_append, addsK_app, List.getD_eq_getElem?_getD, List.getElem?_eq_getElem hi]
  show addsK _ (List.flatMap _ [l[i]]) = addsK _ (noteA p l[i] lc)
  rw [List.flatMap_cons, List.flatMap_nil, List.append_nil]
/-- The counts, as Get tells them. -/
theorem notes_get {p : ByteArray} {lc : Bool} {l : List S51} (h : ∀ v ∈ l, okv v) (hl : l.length ≤ 100) : ∃ W N O : Int, getK (addsK [] (l.flatMap fun v => noteA p v lc)) (p ++ tTotal) = sumV l ∧ getK (addsK [] (l.flatMap fun v => noteA p v lc)) (p ++ tWithin) = W ∧ getK (addsK [] (l.flatMap fun v => noteA p v lc)) (p ++ tNear) = N ∧ getK (addsK [] (l.flatMap fun v => noteA p v lc)) (p ++ tOver) = O ∧ getK (addsK [] (l.flatMap fun v => noteA p v lc)) (p ++ tLocal) = (if lc = true then sumV l else 0) ∧ W + N + O = sumV l ∧ 0 ≤ W ∧ 0 ≤ N ∧ 0 ≤ O ∧ sumV l ≤ 10000000000000 := by
  obtain ⟨a, b, c, d, e, f⟩ := notes_law p lc l h
  have hg : ∀ j, getK (addsK [] (l.flatMap fun v => noteA p v lc)) j = sumK j (l.flatMap fun v => noteA p v lc) := fun j => by
    have h1 := flatN_len p lc l
    have h2 := getK_addsK (M := 12884901885) (l.flatMap fun v => noteA p v lc) [] 0 (fun _ => ⟨Int.le_refl _, Int.le_refl _⟩) (flatN_rng h) (by omega) (by omega) j
    rw [h2]
    show 0 + _ = _
    omega
  have hr := sumV_rng h
  refine ⟨_, _, _, by rw [hg, a], hg _, hg _, hg _, by rw [hg, c], b, d, e, f, by omega⟩
end Go.Proofs.Ytehlhaddbfjllaa.Mp
