/- What the law TrieFits uses, thinned: printed by shake2.py. -/
import Derived.Test.YtipbigdpannlcaaTTrieFitsOTQ
namespace Go.Proofs.Ytipbigdpannlcaa.Tr
open Go.RowKit Go.Proofs.YtipbigdpannlcaaW.PrintWords Go.Proofs.YtipbigdpannlcaaW.PrintLast Go.Proofs.YtipbigdpannlcaaW.PrintMore Go.Proofs.Ytipbigdpannlcaa.PTrieFits Go.Proofs.Ytipbigdpannlcaa.Pure
set_option maxRecDepth 100000
set_option linter.unusedVariables false
set_option linter.unusedSimpArgs false
theorem waysK_has (bs : List BR) (s : Step) : ∀ n : Nat, (∃ j : Nat, j < n ∧ stepOf (br bs j) = s) → hasK (waysK bs n) s = true
  | 0, ⟨j, hj, _⟩ => by omega
  | n + 1, ⟨j, hj, e⟩ => by
    unfold waysK
    rw [hasK_iff]
    by_cases h : stepOf (br bs n) = s
    · exact ⟨_, List.mem_cons_self, h⟩
    · have := waysK_has bs s n ⟨j, by
        rcases Nat.lt_or_ge j n with h1 | h1
        · exact h1
        · obtain rfl : j = n := by omega
          exact absurd e h, e⟩
      obtain ⟨x, hx, ex⟩ := (hasK_iff _ _).1 this
      exact ⟨x, List.mem_cons_of_mem _ (mem_dropK.2 ⟨hx, by rw [ex]; exact fun q => h q.symm⟩), ex⟩
theorem waysK_at (bs : List BR) (s : Step) (n : Nat) (h : hasK (waysK bs n) s = true) : ∃ j : Nat, j < n ∧ stepOf (br bs j) = s ∧ getK 0 (waysK bs n) s = j := by
  obtain ⟨x, hx, rfl⟩ := (hasK_iff _ _).1 h
  obtain ⟨j, hj, rfl⟩ := waysK_mem bs n x hx
  exact ⟨j, hj, rfl, getK_of (z := (0 : Int)) (waysK_nd bs n) hx⟩
theorem topsK_mem (ds : List DO) : ∀ n, ∀ x ∈ topsK ds n, x.2 < 0
  | 0, x, hx => by simp [topsK] at hx
  | n + 1, x, hx => by
    unfold topsK at hx
    rcases List.mem_cons.1 hx with rfl | hx
    · dsimp only; omega
    · exact topsK_mem ds n x (mem_dropK.1 hx).1
theorem topsK_neg (ds : List DO) (s : ByteArray) (n : Nat) (h : hasK (topsK ds n) s = true) : getK 0 (topsK ds n) s < 0 := by
  obtain ⟨x, hx, rfl⟩ := (hasK_iff _ _).1 h
  rw [getK_of (z := (0 : Int)) (topsK_nd ds n) hx]
  exact topsK_mem ds n x hx
structure EntOk (bs : List BR) (m : Int) (e : EN) (k : Int) : Prop where
  k0 : 0 ≤ k
  k1 : k < bs.length
  fr : (stepOf (br bs k)).from_ = m
  key : (br bs k).f0 = e.f0
  val : ((br bs k).f2 = false ∧ (br bs k).f1 = e.f1) ∨ ((br bs k).f2 = true ∧ ∀ j : Int, 0 ≤ j → j < bs.length → stepOf (br bs j) ≠ ⟨m, e.f0, e.f1, false⟩)
def Ch (bs : List BR) : Int → List EN → Int → Prop
  | a, [], k => k = a
  | a, e :: r, k => ∃ j, EntOk bs a e j ∧ Ch bs j r k
theorem Ch.snoc {bs : List BR} {e : EN} {k : Int} : ∀ {l : List EN} {a : Int}, Ch bs a (l ++ [e]) k → ∃ m, Ch bs a l m ∧ EntOk bs m e k
  | [], a, h => by
    obtain ⟨j, h1, h2⟩ := h
    have h2 : k = j := h2
    subst h2
    exact ⟨a, rfl, h1⟩
  | x :: l, a, h => by
    obtain ⟨j, h1, h2⟩ := h
    obtain ⟨m, h3, h4⟩ := Ch.snoc h2
    exact ⟨m, ⟨j, h1, h3⟩, h4⟩
theorem ent_of {bs : List BR} {m : Int} {e : EN} {v : ByteArray} {y : Bool} {j : Nat} (hj : j < bs.length) (hs : stepOf (br bs j) = ⟨m, e.f0, v, y⟩) (hv : (y = false ∧ v = e.f1) ∨ (y = true ∧ hasK (waysK bs bs.length) ⟨m, e.f0, e.f1, false⟩ = false)) : EntOk bs m e j := by
  have a := congrArg Step.from_ hs
  have b := congrArg Step.key hs
  have c := congrArg Step.val hs
  have d := congrArg Step.any hs
  simp only [stepOf] at b c d
  refine ⟨by omega, by omega, a, b, ?_⟩
  rcases hv with ⟨h1, h2⟩ | ⟨h1, h2⟩
  · exact .inl ⟨d.trans h1, c.trans h2⟩
  · refine .inr ⟨d.trans h1, fun i i0 i1 he => ?_⟩
    have := waysK_has bs ⟨m, e.f0, e.f1, false⟩ bs.length ⟨i.toNat, by omega, (show ((i.toNat : Nat) : Int) = i by omega).symm ▸ he⟩
    rw [h2] at this; cases this
theorem matchP_ch {bs : List BR} {k : Int} : ∀ {l : List EN} {a : Int}, matchP (waysK bs bs.length) a l = some k → Ch bs a l k
  | [], a, h => by
    unfold matchP at h
    exact (Option.some.inj h).symm
  | e :: r, a, h => by
    unfold matchP at h
    by_cases h1 : hasK (waysK bs bs.length) ⟨a, e.f0, e.f1, false⟩ = true
    · rw [if_pos h1] at h
      obtain ⟨j, hj, hs, hg⟩ := waysK_at bs _ _ h1
      rw [hg] at h
      exact ⟨j, ent_of hj hs (.inl ⟨rfl, rfl⟩), matchP_ch h⟩
    · rw [if_neg h1] at h
      by_cases h2 : hasK (waysK bs bs.length) ⟨a, e.f0, ⟨#[]⟩, true⟩ = true
      · rw [if_pos h2] at h
        obtain ⟨j, hj, hs, hg⟩ := waysK_at bs _ _ h2
        rw [hg] at h
        exact ⟨j, ent_of hj hs (.inr ⟨rfl, by simpa using h1⟩), matchP_ch h⟩
      · rw [if_neg h2] at h; cases h
def Left (c : Cfg) (a : Int) (l : List EN) (t : Nat) (k : Int) : Prop := a < 0 ∧ ∃ m, Ch c.bs a (l.take t) m ∧ k = if m < 0 then -1 else m
theorem left_start {c : Cfg} {dom : ByteArray} {l : List EN} {k : Int} (h : matchV c dom l = some k) : ck l = true ∧ ∃ a, Left c a l l.length k := by
  unfold matchV at h
  by_cases h1 : ck l = true
  · rw [if_pos h1] at h
    refine ⟨h1, ?_⟩
    by_cases h2 : hasK (topsK c.ds c.ds.length) dom = true
    · rw [if_pos h2] at h
      have h3 := topsK_neg _ _ _ h2
      have h4 := matchP_ch h
      refine ⟨_, h3, k, by rw [List.take_length]; exact h4, ?_⟩
      have hl : 1 ≤ l.length := by
        unfold ck at h1
        simp only [Bool.and_eq_true, decide_eq_true_eq] at h1
        exact h1.1.1
      have hk : 0 ≤ k := by
        obtain ⟨i, x, e⟩ : ∃ i x, l = i ++ [x] := by
          rcases List.eq_nil_or_concat l with e | ⟨i, x, e⟩
          · rw [e] at hl; simp at hl
          · exact ⟨i, x, by rw [e]; simp⟩
        rw [e] at h4
        obtain ⟨m, _, h5⟩ := h4.snoc
        exact h5.k0
      rw [if_neg (by omega)]
    · rw [if_neg h2] at h; cases h
  · rw [if_neg h1] at h; cases h
theorem left_end {c : Cfg} {a : Int} {l : List EN} {k : Int} (h : Left c a l 0 k) : k = -1 := by
  obtain ⟨h1, m, h2, h3⟩ := h
  rw [List.take_zero] at h2
  have h2 : m = a := h2
  rw [h3, if_pos (by omega)]
theorem left_step {c : Cfg} (ht : Tree c) {a : Int} {l : List EN} {t : Nat} (hl : t < l.length) {k : Int} (h : Left c a l (t + 1) k) :
    0 ≤ k ∧ k < c.bs.length ∧ (br c.bs k).f0 = (l.getD t z48).f0 ∧ ((br c.bs k).f2 = true ∨ (br c.bs k).f1 = (l.getD t z48).f1) ∧
    ((br c.bs k).f2 = true → ∀ j : Int, 0 ≤ j → j < c.bs.length → ¬ ((br c.bs j).f4 = (br c.bs k).f4 ∧ (br c.bs j).f3 = (br c.bs k).f3 ∧ (br c.bs j).f0 = (br c.bs k).f0 ∧ (br c.bs j).f2 = false ∧ (br c.bs j).f1 = (l.getD t z48).f1)) ∧
    Left c a l t (br c.bs k).f4 := by
  obtain ⟨h1, m, h2, h3⟩ := h
  have e : l.take (t + 1) = l.take t ++ [l.getD t z48] := by
    rw [List.take_succ_eq_append_getElem hl, List.getD_eq_getElem?_getD, List.getElem?_eq_getElem hl]; rfl
  rw [e] at h2
  obtain ⟨m', h4, h5⟩ := h2.snoc
  have k0 := h5.k0
  have k1 := h5.k1
  rw [if_neg (by omega)] at h3
  subst h3
  refine ⟨k0, k1, h5.key, ?_, ?_, h1, m', h4, ?_⟩
  · rcases h5.val with ⟨_, v⟩ | ⟨v, _⟩
    · exact .inr v
    · exact .inl v
  · intro hany j j0 j1 ⟨a1, a2, a3, a4, a5⟩
    rcases h5.val with ⟨v, _⟩ | ⟨_, v⟩
    · rw [hany] at v; cases v
    · refine v j j0 j1 ?_
      have hfr := h5.fr
      unfold stepOf at hfr ⊢
      simp only [] at hfr
      rw [a1, a2, a3, a4, a5, hfr, h5.key]
  · have hfr := h5.fr
    unfold stepOf at hfr
    simp only [] at hfr
    rcases ht.up k k0 k1 with ⟨u1, _⟩ | ⟨u1, _⟩
    · rw [if_pos (by omega)] at hfr
      have := (ht.dom k k0 k1).1
      rw [u1, if_pos (by omega)]
    · rw [if_neg (by omega)] at hfr
      rw [hfr, if_neg (by omega)]
end Go.Proofs.Ytipbigdpannlcaa.Tr
