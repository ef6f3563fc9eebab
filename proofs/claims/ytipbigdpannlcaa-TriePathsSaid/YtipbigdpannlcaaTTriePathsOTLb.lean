/- What the law TriePaths uses, thinned: printed by shake2.py. -/
import Derived.Test.YtipbigdpannlcaaTTriePathsOTS
namespace Go.Proofs.Ytipbigdpannlcaa.Tr
open Go.RowKit Go.Proofs.YtipbigdpannlcaaW.PrintWords Go.Proofs.YtipbigdpannlcaaW.PrintLast Go.Proofs.YtipbigdpannlcaaW.PrintMore Go.Proofs.Ytipbigdpannlcaa.PTrieFits Go.Proofs.Ytipbigdpannlcaa.Pure
set_option maxRecDepth 100000
set_option linter.unusedVariables false
set_option linter.unusedSimpArgs false
theorem esc_one : ∀ c : UInt8, ((desc_Escape.one c = [c] ∧ c ≠ 37) ∨ desc_Escape.one c = [37, desc_Escape.HEX.getD (c.toNat / 16) 0, desc_Escape.HEX.getD (c.toNat % 16) 0]) ∧ (44 : UInt8) ∉ desc_Escape.one c ∧ (61 : UInt8) ∉ desc_Escape.one c := by
  intro c
  have h : ∀ n : Fin 256, ((desc_Escape.one (UInt8.ofNat n.val) = [UInt8.ofNat n.val] ∧ UInt8.ofNat n.val ≠ 37) ∨ desc_Escape.one (UInt8.ofNat n.val) = [37, desc_Escape.HEX.getD (n.val / 16) 0, desc_Escape.HEX.getD (n.val % 16) 0]) ∧ (44 : UInt8) ∉ desc_Escape.one (UInt8.ofNat n.val) ∧ (61 : UInt8) ∉ desc_Escape.one (UInt8.ofNat n.val) := by decide +kernel
  have := h ⟨c.toNat, c.toNat_lt⟩
  simpa using this
theorem hex_inj : ∀ i j : Fin 16, desc_Escape.HEX.getD i.val 0 = desc_Escape.HEX.getD j.val 0 → i = j := by decide +kernel
theorem esc_no (l : List UInt8) : (44 : UInt8) ∉ desc_Escape.all l ∧ (61 : UInt8) ∉ desc_Escape.all l := by
  unfold desc_Escape.all
  constructor <;> intro h <;> obtain ⟨c, _, hc⟩ := List.mem_flatMap.1 h
  · exact (esc_one c).2.1 hc
  · exact (esc_one c).2.2 hc
theorem esc_cons (c : UInt8) (l : List UInt8) : desc_Escape.all (c :: l) = desc_Escape.one c ++ desc_Escape.all l := rfl
theorem esc_inj : ∀ a b : List UInt8, desc_Escape.all a = desc_Escape.all b → a = b
  | [], [], _ => rfl
  | [], d :: m, h => by
    rw [esc_cons] at h
    rcases (esc_one d).1 with ⟨e, _⟩ | e <;> rw [e] at h <;> cases h
  | c :: l, [], h => by
    rw [esc_cons] at h
    rcases (esc_one c).1 with ⟨e, _⟩ | e <;> rw [e] at h <;> cases h
  | c :: l, d :: m, h => by
    rw [esc_cons, esc_cons] at h
    rcases (esc_one c).1 with ⟨e, n⟩ | e <;> rcases (esc_one d).1 with ⟨f, n'⟩ | f <;> rw [e, f] at h <;> simp only [List.cons_append, List.nil_append, List.cons.injEq] at h
    · rw [h.1, esc_inj l m h.2]
    · exact absurd h.1 n
    · exact absurd h.1.symm n'
    · obtain ⟨_, h1, h2, h3⟩ := h
      have hc := c.toNat_lt
      have hd := d.toNat_lt
      have a := hex_inj ⟨c.toNat / 16, by omega⟩ ⟨d.toNat / 16, by omega⟩ h1
      have b := hex_inj ⟨c.toNat % 16, by omega⟩ ⟨d.toNat % 16, by omega⟩ h2
      simp only [Fin.mk.injEq] at a b
      have : c = d := UInt8.toNat_inj.1 (by omega)
      rw [this, esc_inj l m h3]
theorem cut_at {x : UInt8} {A B u v : List UInt8} (h : A ++ x :: u = B ++ x :: v) (hu : x ∉ u) (hv : x ∉ v) : A = B ∧ u = v := by
  rcases List.append_eq_append_iff.1 h with ⟨t, h1, h2⟩ | ⟨t, h1, h2⟩
  · cases t with
    | nil => simp at h1 h2; exact ⟨h1.symm, h2⟩
    | cons y t =>
      simp only [List.cons_append, List.cons.injEq] at h2
      exact absurd (by rw [h2.2]; simp) hu
  · cases t with
    | nil => simp at h1 h2; exact ⟨h1, h2.symm⟩
    | cons y t =>
      simp only [List.cons_append, List.cons.injEq] at h2
      exact absurd (by rw [h2.2]; simp) hv
def uOf (b : BR) : List UInt8 := if b.f2 = true then desc_Escape.all b.f0.data.toList else desc_Escape.all b.f0.data.toList ++ 61 :: desc_Escape.all b.f1.data.toList
theorem eB_l (s : ByteArray) : (eB s).data.toList = desc_Escape.all s.data.toList := by unfold eB; rfl
theorem oneB_l (b : BR) : (oneB b).data.toList = 44 :: uOf b := by
  unfold oneB uOf
  by_cases h : b.f2 = true
  · rw [if_pos h, if_pos h]; simp [ByteArray.data_append, eB_l]
  · rw [if_neg h, if_neg h]; simp [ByteArray.data_append, eB_l]
theorem uOf_no (b : BR) : (44 : UInt8) ∉ uOf b := by
  unfold uOf
  split
  · exact (esc_no _).1
  · intro h
    rcases List.mem_append.1 h with h | h
    · exact (esc_no _).1 h
    · rcases List.mem_cons.1 h with h | h
      · cases h
      · exact (esc_no _).1 h
theorem bytes_eq {a b : ByteArray} (h : a.data.toList = b.data.toList) : a = b := Go.WideShapes.bytes_inj h
theorem uOf_inj {a b : BR} (ha : a.f2 = true → a.f1.toList = []) (hb : b.f2 = true → b.f1.toList = []) (h : uOf a = uOf b) : twinB a b = true := by
  rw [twinB_iff]
  unfold uOf at h
  by_cases h1 : a.f2 = true <;> by_cases h2 : b.f2 = true
  · rw [if_pos h1, if_pos h2] at h
    have e1 := ha h1
    have e2 := hb h2
    rw [ByteArray.toList_eq] at e1 e2
    exact ⟨bytes_eq (esc_inj _ _ h), bytes_eq (e1.trans e2.symm), h1.trans h2.symm⟩
  · rw [if_pos h1, if_neg h2] at h
    exact absurd (by rw [h]; simp) (esc_no a.f0.data.toList).2
  · rw [if_neg h1, if_pos h2] at h
    exact absurd (by rw [← h]; simp) (esc_no b.f0.data.toList).2
  · rw [if_neg h1, if_neg h2] at h
    obtain ⟨e1, e2⟩ := cut_at h (esc_no _).2 (esc_no _).2
    exact ⟨bytes_eq (esc_inj _ _ e1), bytes_eq (esc_inj _ _ e2), by rw [Bool.eq_false_iff.2 h1, Bool.eq_false_iff.2 h2]⟩
section
variable {c : Cfg} (ht : Tree c)
include ht
theorem ups_of : Ups c.bs := fun j h0 h1 => by
  rcases ht.up j h0 h1 with ⟨e, _⟩ | ⟨e, f, _⟩
  · rw [e]; omega
  · omega
def upV (c : Cfg) (i : Int) : ByteArray := if 0 ≤ (br c.bs i).f4 then pathV c (br c.bs i).f4 else eB (dd c.ds (br c.bs i).f3).f0
theorem path_up {i : Int} (h0 : 0 ≤ i) (h1 : i < c.bs.length) : pathV c i = upV c i ++ oneB (br c.bs i) := by
  unfold pathV upV
  rw [if_pos ⟨h0, h1⟩, pathB_step (ups_of ht) h0 h1]
  rcases ht.up i h0 h1 with ⟨e, _⟩ | ⟨e, f, g, _⟩
  · rw [if_neg (by omega), pathB_neg _ (show (br c.bs i).f4 < 0 by omega), nil_str]
  · rw [if_pos e]; unfold pathV
    rw [if_pos ⟨e, by omega⟩, g, ByteArray.append_assoc]
theorem dd_inj {a b : Int} (ha : 0 ≤ a ∧ a < c.ds.length) (hb : 0 ≤ b ∧ b < c.ds.length) (h : (dd c.ds a).f0 = (dd c.ds b).f0) : a = b := by
  have hn := ht.nms
  have hA : a.toNat < (c.ds.map (·.f0)).length := by rw [List.length_map]; omega
  have hB : b.toNat < (c.ds.map (·.f0)).length := by rw [List.length_map]; omega
  have e : ∀ (x : Int) (hx : x.toNat < (c.ds.map (·.f0)).length), (c.ds.map (·.f0))[x.toNat] = (dd c.ds x).f0 := by
    intro x hx
    rw [List.length_map] at hx
    unfold dd
    rw [List.getElem_map, List.getD_eq_getElem?_getD, List.getElem?_eq_getElem hx]; rfl
  have hp := List.pairwise_iff_getElem.1 hn
  rcases Nat.lt_trichotomy a.toNat b.toNat with g | g | g
  · exact absurd (by rw [e, e, h]) (hp _ _ hA hB g)
  · omega
  · exact absurd (by rw [e, e, h]) (hp _ _ hB hA g)
theorem path_inj (hm : ∀ j : Int, 0 ≤ j → j < c.bs.length → (br c.bs j).f2 = true → (br c.bs j).f1.toList = []) : ∀ (f : Nat) (i j : Int), i.toNat < f → 0 ≤ i → i < c.bs.length → 0 ≤ j → j < c.bs.length → pathV c i = pathV c j → i = j
  | 0, i, j, hf, _, _, _, _, _ => by omega
  | f + 1, i, j, hf, i0, i1, j0, j1, h => by
    have h2 : (pathV c i).data.toList = (pathV c j).data.toList := by rw [h]
    rw [path_up ht i0 i1, path_up ht j0 j1] at h2
    simp only [ByteArray.data_append, Array.toList_append, oneB_l] at h2
    obtain ⟨e1, e2⟩ := cut_at h2 (uOf_no _) (uOf_no _)
    have tw := uOf_inj (hm i i0 i1) (hm j j0 j1) e2
    have e1 := bytes_eq e1
    unfold upV at e1
    have di := ht.dom i i0 i1
    have dj := ht.dom j j0 j1
    have noc : ∀ (d : Int) (k : Int), 0 ≤ k → k < c.bs.length → eB (dd c.ds d).f0 = pathV c k → False := by
      intro d k k0 k1 e
      have e : (eB (dd c.ds d).f0).data.toList = (pathV c k).data.toList := by rw [e]
      rw [path_up ht k0 k1] at e
      simp only [ByteArray.data_append, Array.toList_append, oneB_l, eB_l] at e
      exact (esc_no (dd c.ds d).f0.data.toList).1 (by rw [e]; simp)
    rcases ht.up i i0 i1 with ⟨a1, a2⟩ | ⟨a1, a2, a3, a4⟩ <;> rcases ht.up j j0 j1 with ⟨b1, b2⟩ | ⟨b1, b2, b3, b4⟩
    · rw [if_neg (by omega), if_neg (by omega)] at e1
      have e3 : (eB (dd c.ds (br c.bs i).f3).f0).data.toList = (eB (dd c.ds (br c.bs j).f3).f0).data.toList := by rw [e1]
      rw [eB_l, eB_l] at e3
      have e4 := dd_inj ht di dj (bytes_eq (esc_inj _ _ e3))
      rw [← e4] at b2
      exact pw_uniq (ht.twT _ di.1 di.2) i a2 j b2 tw
    · rw [if_neg (by omega), if_pos b1] at e1
      exact (noc _ _ b1 (by omega) e1).elim
    · rw [if_pos a1, if_neg (by omega)] at e1
      exact (noc _ _ a1 (by omega) e1.symm).elim
    · rw [if_pos a1, if_pos b1] at e1
      have e3 := path_inj hm f _ _ (by omega) a1 (by omega) b1 (by omega) e1
      rw [← e3] at b4
      exact pw_uniq (ht.twK _ a1 (by omega)) i a4 j b4 tw
end
end Go.Proofs.Ytipbigdpannlcaa.Tr
