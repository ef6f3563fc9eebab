/- A part of the proof. -/
import Derived.Test.YtjgoddieamphpaaOXC
namespace Go.Proofs.Ytjgoddieamphpaa.Wh
open Go.RowKit Go.Sort Go.Proofs.YtjgoddieamphpaaW.PrintWords Go.Proofs.YtjgoddieamphpaaW.PrintLast Heap Go.Proofs.Ytjgoddieamphpaa.Obj Go.Proofs.Ytjgoddieamphpaa.PWheelActs
set_option maxRecDepth 100000
set_option linter.unusedVariables false
/-! What ends first, and what falls due. -/
def lessK (a b : KV) : Bool := decide (a.2 < b.2) || (decide (a.2 = b.2) && bl a.1 b.1)
theorem lessK_irr (a : KV) : lessK a a = false := lessI_wo.irr (0, a)
theorem lessK_tr (a b c : KV) : lessK a b = true → lessK b c = true → lessK a c = true := lessI_wo.tr (0, a) (0, b) (0, c)
theorem lessK_ntr (a b c : KV) : lessK a b = false → lessK b c = false → lessK a c = false := lessI_wo.ntr (0, a) (0, b) (0, c)
theorem lessK_anti {a b : KV} (h : lessK a b = false) (k : lessK b a = false) : a = b := by
  have e : ∀ x y : KV, lessK x y = false ↔ ¬ (x.2 < y.2 ∨ x.2 = y.2 ∧ x.1.data.toList < y.1.data.toList) := fun x y => by
    unfold lessK
    rw [← Bool.not_eq_true]
    simp only [Bool.or_eq_true, Bool.and_eq_true, decide_eq_true_eq, bl_iff]
  rw [e] at h k
  have h1 : a.2 = b.2 := by
    by_cases q1 : a.2 < b.2
    · exact absurd (.inl q1) h
    · by_cases q2 : b.2 < a.2
      · exact absurd (.inl q2) k
      · omega
  have h2 : a.1.data.toList = b.1.data.toList := List.le_antisymm (List.not_lt.1 fun q => k (.inr ⟨h1.symm, q⟩)) (List.not_lt.1 fun q => h (.inr ⟨h1, q⟩))
  obtain ⟨⟨⟨x⟩⟩, s⟩ := a
  obtain ⟨⟨⟨y⟩⟩, t⟩ := b
  have h2 : x = y := h2
  have h1 : s = t := h1
  rw [h1, h2]
def IsFirst (K : List KV) (x : KV) : Prop := x ∈ K ∧ ∀ y ∈ K, lessK y x = false
theorem IsFirst.uniq {K L : List KV} {x y : KV} (h : IsFirst K x) (k : IsFirst L y) (hp : K.Perm L) : x = y := lessK_anti (k.2 x (hp.mem_iff.1 h.1)) (h.2 y (hp.mem_iff.2 k.1))
inductive Dues (now : Int) : Nat → List KV → List ByteArray → List KV → Prop
  | full (K : List KV) : Dues now 0 K [] K
  | none (m : Nat) : Dues now (m + 1) [] [] []
  | later (m : Nat) (K : List KV) (x : KV) : IsFirst K x → now < x.2 → Dues now (m + 1) K [] K
  | one (m : Nat) (K K1 K2 : List KV) (x : KV) (out : List ByteArray) : IsFirst K x → x.2 ≤ now → K1.Perm (dropK K x.1) → Dues now m K1 out K2 → Dues now (m + 1) K (x.1 :: out) K2
theorem Dues.uniq {now : Int} {m : Nat} {K K1 : List KV} {o : List ByteArray} (h : Dues now m K o K1) : ∀ {L L1 : List KV} {o' : List ByteArray}, Dues now m L o' L1 → K.Perm L → o = o' ∧ K1.Perm L1 := by
  induction h with
  | full K =>
    intro L L1 o' k hp
    cases k
    exact ⟨rfl, hp⟩
  | none m =>
    intro L L1 o' k hp
    have hL : L = [] := hp.symm.eq_nil
    subst hL
    cases k with
    | none => exact ⟨rfl, List.Perm.refl _⟩
    | later => exact absurd (‹IsFirst [] _› : IsFirst [] _).1 (by simp)
    | one => exact absurd (‹IsFirst [] _› : IsFirst [] _).1 (by simp)
  | later m K x h1 h2 =>
    intro L L1 o' k hp
    cases k with
    | none => exact absurd (hp.eq_nil ▸ h1.1) (by simp)
    | later => exact ⟨rfl, hp⟩
    | one => have e := IsFirst.uniq (L := L) h1 (by assumption) hp; subst e; omega
  | one m K K1 K2 x out h1 h2 h3 h4 ih =>
    intro L L1 o' k hp
    cases k with
    | none => exact absurd (hp.eq_nil ▸ h1.1) (by simp)
    | later => have e := IsFirst.uniq (L := L) h1 (by assumption) hp; subst e; omega
    | one =>
      have e := IsFirst.uniq (L := L) h1 (by assumption) hp
      subst e
      obtain ⟨e1, e2⟩ := ih (by assumption) (h3.trans ((dropK_perm hp _).trans (List.Perm.symm (by assumption))))
      exact ⟨by rw [e1], e2⟩
/-- The row's first. -/
def cu (c : S98) : KV := (c.f0, c.f2)
def kvU (L : List S98) : List KV := L.map cu
def ku' (L : List S98) (i : Nat) : KV := cu (L.getD i z98)
theorem ku_mem (L : List S98) (i : Nat) (hi : i < L.length) : ku' L i ∈ kvU L := by
  unfold ku' kvU
  rw [List.getD_eq_getElem?_getD, List.getElem?_eq_getElem hi]
  exact List.mem_map.2 ⟨_, List.getElem_mem hi, rfl⟩
theorem mem_ku (L : List S98) (x : KV) (hx : x ∈ kvU L) : ∃ i, i < L.length ∧ x = ku' L i := by
  obtain ⟨c, hc, rfl⟩ := List.mem_map.1 hx
  obtain ⟨i, hi, rfl⟩ := List.mem_iff_getElem.1 hc
  refine ⟨i, hi, ?_⟩
  unfold ku'
  rw [List.getD_eq_getElem?_getD, List.getElem?_eq_getElem hi]; rfl
theorem before_f (a b : S98) : turncockref20_before.f a.f0 a.f1 a.f2 b.f0 b.f1 b.f2 = some (lessK (cu a) (cu b)) := by
  unfold turncockref20_before.f lessK cu
  by_cases h1 : a.f2 < b.f2
  · rw [if_pos h1, decide_eq_true h1]; rfl
  · rw [if_neg h1, decide_eq_false h1]
    by_cases h2 : a.f2 = b.f2
    · rw [if_pos h2, decide_eq_true h2]; rfl
    · rw [if_neg h2, decide_eq_false h2]; rfl
theorem first_l0 (L : List S98) (hN : L.length ≤ 1000000) : ∀ d i k j, i + d = L.length → d < k → j < i → (∀ q, q < i → lessK (ku' L q) (ku' L j) = false) → ∃ r : Nat, turncockref20_first.l0 k L (j : Int) (i : Int) = some (r : Int) ∧ r < L.length ∧ ∀ q, q < L.length → lessK (ku' L q) (ku' L r) = false
  | 0, i, k, j, hd, hk, hj, hm => by
    obtain ⟨k, rfl⟩ : ∃ m, k = m + 1 := ⟨k - 1, by omega⟩
    simp only [turncockref20_first.l0]
    rw [if_neg (by omega)]
    exact ⟨j, rfl, by omega, fun q hq => hm q (by omega)⟩
  | d + 1, i, k, j, hd, hk, hj, hm => by
    obtain ⟨k, rfl⟩ : ∃ m, k = m + 1 := ⟨k - 1, by omega⟩
    simp only [turncockref20_first.l0]
    have ei : rd_T98 L (i : Int) = L.getD i z98 := by unfold rd_T98; rw [Int.toNat_natCast]
    have ej : rd_T98 L (j : Int) = L.getD j z98 := by unfold rd_T98; rw [Int.toNat_natCast]
    rw [if_pos (by omega), if_neg (by omega), if_pos (by omega), if_pos (by omega), if_pos (by omega), ei, ej, before_f, Option.bind_some, show wrap64 ((i : Int) + 1) = ((i + 1 : Nat) : Int) from by unfold wrap64; omega]
    cases hl : lessK (cu (L.getD i z98)) (cu (L.getD j z98)) with
    | true =>
      rw [if_pos rfl]
      refine first_l0 L hN d (i + 1) k i (by omega) (by omega) (by omega) (fun q hq => ?_)
      by_cases e : q = i
      · subst e; exact lessK_irr _
      · have h1 := hm q (by omega)
        have h2 : lessK (ku' L j) (ku' L i) = false := by
          cases h3 : lessK (ku' L j) (ku' L i) with
          | false => rfl
          | true => have := lessK_tr _ _ _ hl h3; rw [show ku' L i = cu (L.getD i z98) from rfl, lessK_irr] at this; cases this
        exact lessK_ntr _ _ _ h1 h2
    | false =>
      rw [if_neg (by decide)]
      refine first_l0 L hN d (i + 1) k j (by omega) (by omega) (by omega) (fun q hq => ?_)
      by_cases e : q = i
      · subst e; exact hl
      · exact hm q (by omega)
theorem first_some (L : List S98) (hN : L.length ≤ 1000000) (h0 : 0 < L.length) : ∃ r : Nat, turncockref20_first.f (L.length + 1) L = some (r : Int) ∧ r < L.length ∧ IsFirst (kvU L) (ku' L r) := by
  unfold turncockref20_first.f
  simp only [turncockref20_first.l0]
  rw [if_pos (by omega), if_pos (by omega), show wrap64 ((0 : Int) + 1) = ((1 : Nat) : Int) from by unfold wrap64; omega]
  have h00 : ∀ q, q < 1 → lessK (ku' L q) (ku' L 0) = false := fun q hq => by
    have e : q = 0 := by omega
    subst e
    exact lessK_irr _
  obtain ⟨r, h1, h2, h3⟩ := first_l0 L hN (L.length - 1) 1 L.length 0 (by omega) (by omega) (by omega) h00
  exact ⟨r, h1, h2, ku_mem L r h2, fun y hy => by obtain ⟨i, hi, rfl⟩ := mem_ku L y hy; exact h3 i hi⟩
theorem first_none : turncockref20_first.f 1 [] = some (-1) := by
  unfold turncockref20_first.f
  simp [turncockref20_first.l0]
/-- The document's Next. -/
theorem rwnext_none {w : World} {m : Nat} {v : Value} (h : RW w m [] v) :
    Calls Try.prog 35 #[.pointer (some ⟨m, 0, none⟩)] w fun e w' => e = .returned (.tuple #[.string ⟨#[]⟩, .int .i64 0, .bool false]) ∧ (∃ v', RW w' m [] v') ∧ Frm (fun _ => False) w w' := by
  obtain ⟨A, c, rfl, hl, hr⟩ := Kd.R_reads h.row
  have hc0 := h.c0
  have hr := Aside0.mk hr
  have hl := Lib.hid hl
  have HH := Aside0.mk h
  clear h
  go_enter Try.func35, Try.ntmps35
  go_wp2_with fail
  (with_reducible refine (show Calls Try.prog 74 #[.slice A 0 c] _ _ from turncockref20_first.calls 1 A c [] (-1) _ hr.out hl.out first_none).mono ?_); rintro e w' ⟨rfl, hb⟩
  have HB := Aside0.mk hb
  clear hb
  go_wp2
  go_ret3
  exact ⟨rfl, ⟨_, HH.out.frm (Frm.of_below (F := fun _ => False) HB.out) (fun _ _ _ hf => hf.elim)⟩, Frm.of_below HB.out⟩
theorem rwnext_some {w : World} {m : Nat} {L : List S98} {v : Value} (h : RW w m L v) (h0 : 0 < L.length) :
    Calls Try.prog 35 #[.pointer (some ⟨m, 0, none⟩)] w fun e w' => ∃ x, IsFirst (kvU L) x ∧ e = .returned (.tuple #[.string x.1, .int .i64 x.2, .bool true]) ∧ (∃ v', RW w' m L v') ∧ Frm (fun _ => False) w w' := by
  obtain ⟨A, c, rfl, hl, hr⟩ := Kd.R_reads h.row
  have hc0 := h.c0
  obtain ⟨r, hf, hrl, hff⟩ := first_some L (by have := h.few; omega) h0
  obtain ⟨ad, rfl, q0, q1, q2⟩ := at_T98 hr (r : Int) (by omega) (by omega)
  have er : rd_T98 L (r : Int) = L.getD r z98 := by unfold rd_T98; rw [Int.toNat_natCast]
  rw [er, Int.toNat_natCast] at q0 q1 q2
  have g1 : decide ((r : Int) < 0) = false := decide_eq_false (by omega)
  obtain ⟨kx, hkx⟩ : ∃ kx, kx = (L.getD r z98).f0 := ⟨_, rfl⟩
  obtain ⟨tx, htx⟩ : ∃ tx, tx = (L.getD r z98).f2 := ⟨_, rfl⟩
  rw [← hkx] at q0
  rw [← htx] at q2
  have hff : IsFirst (kvU L) (kx, tx) := by rw [hkx, htx]; exact hff
  have Q0 := Lib.hid q0
  have Q2 := Lib.hid q2
  have HF := Lib.hid hf
  have HI := Lib.hid hff
  have hr := Aside0.mk hr
  have hl := Lib.hid hl
  have HH := Aside0.mk h
  clear h hf hff hkx htx er q0 q1 q2
  go_enter Try.func35, Try.ntmps35
  go_wp2_with fail
  (with_reducible refine (turncockref20_first.calls (L.length + 1) (some ad) c L r _ hr.out hl.out HF.out).mono ?_); rintro e w' ⟨rfl, hb⟩
  have HB := Aside0.mk hb
  have p0 := pw_cell_below hb Q0.out
  have p2 := pw_cell_below hb Q2.out
  have pc := pw_cell_below hb hc0
  clear hb
  go_wp2
  go_quiet (fail)
  go_wp2
  go_ret3
  exact ⟨(kx, tx), HI.out, rfl, ⟨_, (HH.out.frm (Frm.of_below (F := fun _ => False) HB.out) (fun _ _ _ hf => hf.elim)).drewN _⟩, (Frm.of_below HB.out).drewN _⟩
end Go.Proofs.Ytjgoddieamphpaa.Wh
