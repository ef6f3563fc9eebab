/- What the law TrieFits uses, thinned: printed by shake2.py. -/
import Derived.Test.YtipbigdpannlcaaTTrieFitsOTM
namespace Go.Proofs.Ytipbigdpannlcaa.Tr
open Go.Proofs.Ytipbigdpannlcaa.PTrieFits
set_option maxRecDepth 100000
set_option linter.unusedVariables false
set_option linter.unusedSectionVars false
abbrev zD : DO := z53
def dd (ds : List DO) (i : Int) : DO := ds.getD i.toNat zD
section
variable (may : BR → Int → Int → Bool) (bs : List BR)
def wkl (dom up deep : Int) (rec_ : List Int → Int → Int → Int) : List Int → List Int → Int → Int
  | _, [], next => next
  | ah, k :: ks, next =>
    if k ≠ next ∨ (bs.length : Int) ≤ k ∨ 8 < deep ∨ may (br bs k) dom up = false then -1
    else if ah.any (fun j => twinB (br bs j) (br bs k)) = true then -1
    else if rec_ (br bs k).f7 k (k + 1) < 0 then -1
    else wkl dom up deep rec_ (ah ++ [k]) ks (rec_ (br bs k).f7 k (k + 1))
def wk (dom : Int) : Nat → List Int → Int → Int → Int → Int
  | 0, _, _, _, _ => -1
  | f + 1, kids, up, next, deep => wkl may bs dom up deep (fun ks u n => wk dom f ks u n (deep + 1)) [] kids next
def NT (a b : Int) : Prop := twinB (br bs a) (br bs b) = false
structure Part (dom up : Int) (kids : List Int) (next n' : Int) : Prop where
  le : next ≤ n'
  hi : n' ≤ bs.length
  kin : ∀ k ∈ kids, next ≤ k ∧ k < n' ∧ (br bs k).f4 = up ∧ (br bs k).f3 = dom
  each : ∀ j, next ≤ j → j < n' → may (br bs j) dom (br bs j).f4 = true ∧ ((j ∈ kids ∧ (br bs j).f4 = up) ∨ (next ≤ (br bs j).f4 ∧ (br bs j).f4 < j ∧ j ∈ (br bs (br bs j).f4).f7))
  sub : ∀ i, next ≤ i → i < n' → ∀ k ∈ (br bs i).f7, i < k ∧ k < n' ∧ (br bs k).f4 = i ∧ (br bs k).f3 = dom
  twS : ∀ i, next ≤ i → i < n' → (br bs i).f7.Pairwise (NT bs)
end
section
variable {may : BR → Int → Int → Bool} {bs : List BR} {dom up deep : Int} (hm : ∀ b d u, may b d u = true → b.f3 = d ∧ b.f4 = u)
include hm
theorem wkl_part {rec_ : List Int → Int → Int → Int} (ih : ∀ (ks : List Int) (u n : Int), 0 ≤ n → n ≤ bs.length → 0 ≤ rec_ ks u n → Part may bs dom u ks n (rec_ ks u n) ∧ ks.Pairwise (NT bs)) :
    ∀ (kids ah : List Int) (next : Int), 0 ≤ next → next ≤ bs.length → 0 ≤ wkl may bs dom up deep rec_ ah kids next → ah.Pairwise (NT bs) →
      Part may bs dom up kids next (wkl may bs dom up deep rec_ ah kids next) ∧ (ah ++ kids).Pairwise (NT bs)
  | [], ah, next, h0, h1, h2, h3 => by
    unfold wkl
    exact ⟨⟨Int.le_refl _, h1, (fun k hk => by cases hk), (fun j a b => by omega), (fun j a b => by omega), (fun j a b => by omega)⟩, by rw [List.append_nil]; exact h3⟩
  | k :: ks, ah, next, h0, h1, h2, h3 => by
    unfold wkl at h2 ⊢
    by_cases c1 : k ≠ next ∨ (bs.length : Int) ≤ k ∨ 8 < deep ∨ may (br bs k) dom up = false
    · rw [if_pos c1] at h2; omega
    · rw [if_neg c1] at h2 ⊢
      by_cases c2 : ah.any (fun j => twinB (br bs j) (br bs k)) = true
      · rw [if_pos c2] at h2; omega
      · rw [if_neg c2] at h2 ⊢
        by_cases c3 : rec_ (br bs k).f7 k (k + 1) < 0
        · rw [if_pos c3] at h2; omega
        · rw [if_neg c3] at h2 ⊢
          have e1 : k = next := by omega
          subst e1
          have hk : k < bs.length := by omega
          have hmay : may (br bs k) dom up = true := by
            cases e : may (br bs k) dom up with
            | true => rfl
            | false => exact absurd (.inr (.inr (.inr e))) c1
          obtain ⟨q3, q4⟩ := hm _ _ _ hmay
          obtain ⟨P1, T1⟩ := ih (br bs k).f7 k (k + 1) (by omega) (by omega) (by omega)
          have hah : (ah ++ [k]).Pairwise (NT bs) := by
            rw [List.pairwise_append]
            refine ⟨h3, by simp, fun a ha b hb => ?_⟩
            obtain rfl : b = k := by simpa using hb
            cases e : twinB (br bs a) (br bs b) with
            | false => exact e
            | true => exact absurd (List.any_eq_true.2 ⟨a, ha, e⟩) c2
          generalize hn1 : rec_ (br bs k).f7 k (k + 1) = n1 at *
          obtain ⟨P2, T2⟩ := wkl_part ih ks (ah ++ [k]) n1 (by omega) P1.hi h2 hah
          have l1 := P1.le
          have l2 := P2.le
          generalize wkl may bs dom up deep rec_ (ah ++ [k]) ks n1 = n2 at *
          refine ⟨⟨by omega, P2.hi, ?_, ?_, ?_, ?_⟩, by simpa using T2⟩
          · intro j hj
            rcases List.mem_cons.1 hj with rfl | hj
            · exact ⟨by omega, by omega, q4, q3⟩
            · obtain ⟨a, b, c, d⟩ := P2.kin j hj
              exact ⟨by omega, by omega, c, d⟩
          · intro j a b
            by_cases e1 : j = k
            · subst e1
              exact ⟨by rw [q4]; exact hmay, .inl ⟨List.mem_cons_self, q4⟩⟩
            · by_cases e2 : j < n1
              · obtain ⟨m1, h⟩ := P1.each j (by omega) e2
                refine ⟨m1, .inr ?_⟩
                rcases h with ⟨h5, h6⟩ | ⟨h5, h6, h7⟩
                · rw [h6]; exact ⟨by omega, by omega, h5⟩
                · exact ⟨by omega, h6, h7⟩
              · obtain ⟨m1, h⟩ := P2.each j (by omega) b
                refine ⟨m1, ?_⟩
                rcases h with ⟨h5, h6⟩ | ⟨h5, h6, h7⟩
                · exact .inl ⟨List.mem_cons_of_mem _ h5, h6⟩
                · exact .inr ⟨by omega, h6, h7⟩
          · intro i a b j hj
            by_cases e1 : i = k
            · subst e1
              obtain ⟨x, y, z, t⟩ := P1.kin j hj
              exact ⟨by omega, by omega, z, t⟩
            · by_cases e2 : i < n1
              · obtain ⟨x, y, z, t⟩ := P1.sub i (by omega) e2 j hj
                exact ⟨x, by omega, z, t⟩
              · obtain ⟨x, y, z, t⟩ := P2.sub i (by omega) b j hj
                exact ⟨x, by omega, z, t⟩
          · intro i a b
            by_cases e1 : i = k
            · subst e1; exact T1
            · by_cases e2 : i < n1
              · exact P1.twS i (by omega) e2
              · exact P2.twS i (by omega) b
theorem wk_part : ∀ (f : Nat) (kids : List Int) (up next deep : Int), 0 ≤ next → next ≤ bs.length → 0 ≤ wk may bs dom f kids up next deep → Part may bs dom up kids next (wk may bs dom f kids up next deep) ∧ kids.Pairwise (NT bs)
  | 0, _, _, _, _, _, _, h => by unfold wk at h; omega
  | f + 1, kids, up, next, deep, h0, h1, h2 => by
    unfold wk at h2 ⊢
    have := wkl_part hm (up := up) (deep := deep) (fun ks u n a b c => wk_part f ks u n (deep + 1) a b c) kids [] next h0 h1 h2 List.Pairwise.nil
    simpa using this
end
def chD (may : BR → Int → Int → Bool) (nm : ByteArray → Bool) (bs : List BR) : List ByteArray → Nat → List DO → Int → Int
  | _, _, [], next => next
  | seen, i, d :: r, next =>
    if seen.any (fun s => decide (s = d.f0)) = true ∨ nm d.f0 = false then -1
    else if wk may bs i 9 d.f1 (-1) next 1 < 0 then -1
    else chD may nm bs (seen ++ [d.f0]) (i + 1) r (wk may bs i 9 d.f1 (-1) next 1)
def chk (may : BR → Int → Int → Bool) (nm : ByteArray → Bool) (c : Cfg) : Bool :=
  decide (1 ≤ c.ds.length) && decide (c.ds.length ≤ 16) && decide (c.bs.length ≤ 500) && decide (chD may nm c.bs [] 0 c.ds 0 = (c.bs.length : Int))
structure Tree (c : Cfg) : Prop where
  dom : ∀ j : Int, 0 ≤ j → j < c.bs.length → 0 ≤ (br c.bs j).f3 ∧ (br c.bs j).f3 < c.ds.length
  up : ∀ j : Int, 0 ≤ j → j < c.bs.length → ((br c.bs j).f4 = -1 ∧ j ∈ (dd c.ds (br c.bs j).f3).f1) ∨ (0 ≤ (br c.bs j).f4 ∧ (br c.bs j).f4 < j ∧ (br c.bs (br c.bs j).f4).f3 = (br c.bs j).f3 ∧ j ∈ (br c.bs (br c.bs j).f4).f7)
  top : ∀ d : Int, 0 ≤ d → d < c.ds.length → ∀ k ∈ (dd c.ds d).f1, 0 ≤ k ∧ k < c.bs.length ∧ (br c.bs k).f4 = -1 ∧ (br c.bs k).f3 = d
  kid : ∀ i : Int, 0 ≤ i → i < c.bs.length → ∀ k ∈ (br c.bs i).f7, i < k ∧ k < c.bs.length ∧ (br c.bs k).f4 = i ∧ (br c.bs k).f3 = (br c.bs i).f3
  twT : ∀ d : Int, 0 ≤ d → d < c.ds.length → (dd c.ds d).f1.Pairwise (NT c.bs)
  twK : ∀ i : Int, 0 ≤ i → i < c.bs.length → (br c.bs i).f7.Pairwise (NT c.bs)
  nms : (c.ds.map (·.f0)).Nodup
section
variable {may : BR → Int → Int → Bool} {nm : ByteArray → Bool} {bs : List BR} (hm : ∀ b d u, may b d u = true → b.f3 = d ∧ b.f4 = u)
include hm
theorem chD_tree : ∀ (r : List DO) (seen : List ByteArray) (i : Nat) (next : Int), 0 ≤ next → next ≤ bs.length → 0 ≤ chD may nm bs seen i r next → seen.Nodup →
    next ≤ chD may nm bs seen i r next ∧ chD may nm bs seen i r next ≤ bs.length ∧ (seen ++ r.map (·.f0)).Nodup ∧
    (∀ j, next ≤ j → j < chD may nm bs seen i r next → ∃ t : Nat, t < r.length ∧ (br bs j).f3 = (i + t : Nat) ∧ may (br bs j) (i + t : Nat) (br bs j).f4 = true ∧ (((br bs j).f4 = -1 ∧ j ∈ (r.getD t zD).f1) ∨ (next ≤ (br bs j).f4 ∧ (br bs j).f4 < j ∧ (br bs (br bs j).f4).f3 = (br bs j).f3 ∧ j ∈ (br bs (br bs j).f4).f7))) ∧
    (∀ t : Nat, t < r.length → nm (r.getD t zD).f0 = true ∧ (r.getD t zD).f1.Pairwise (NT bs) ∧ ∀ k ∈ (r.getD t zD).f1, next ≤ k ∧ k < chD may nm bs seen i r next ∧ (br bs k).f4 = -1 ∧ (br bs k).f3 = (i + t : Nat)) ∧
    (∀ j, next ≤ j → j < chD may nm bs seen i r next → (br bs j).f7.Pairwise (NT bs) ∧ ∀ k ∈ (br bs j).f7, j < k ∧ k < chD may nm bs seen i r next ∧ (br bs k).f4 = j ∧ (br bs k).f3 = (br bs j).f3)
  | [], seen, i, next, h0, h1, h2, h3 => by
    unfold chD
    exact ⟨Int.le_refl _, h1, by simpa using h3, fun j a b => by omega, fun t ht => by simp at ht, fun j a b => by omega⟩
  | d :: r, seen, i, next, h0, h1, h2, h3 => by
    unfold chD at h2 ⊢
    by_cases c1 : seen.any (fun s => decide (s = d.f0)) = true ∨ nm d.f0 = false
    · rw [if_pos c1] at h2; omega
    · rw [if_neg c1] at h2 ⊢
      by_cases c2 : wk may bs i 9 d.f1 (-1) next 1 < 0
      · rw [if_pos c2] at h2; omega
      · rw [if_neg c2] at h2 ⊢
        obtain ⟨P, T⟩ := wk_part hm 9 d.f1 (-1) next 1 h0 h1 (by omega) (dom := (i : Int))
        generalize wk may bs i 9 d.f1 (-1) next 1 = n1 at *
        have l1 := P.le
        have hs : (seen ++ [d.f0]).Nodup := by
          rw [List.nodup_append]
          refine ⟨h3, by simp, fun a ha b hb e => ?_⟩
          obtain rfl : b = d.f0 := by simpa using hb
          exact c1 (.inl (List.any_eq_true.2 ⟨a, ha, decide_eq_true e⟩))
        obtain ⟨a1, a2, a3, a4, a5, a6⟩ := chD_tree r (seen ++ [d.f0]) (i + 1) n1 (by omega) P.hi h2 hs
        generalize chD may nm bs (seen ++ [d.f0]) (i + 1) r n1 = n2 at *
        refine ⟨by omega, a2, by simpa using a3, ?_, ?_, ?_⟩
        · intro j x y
          by_cases e : j < n1
          · obtain ⟨m1, h⟩ := P.each j x e
            have hd := (hm _ _ _ m1).1
            refine ⟨0, by simp, by simpa using hd, by simpa using m1, ?_⟩
            rcases h with ⟨h5, h6⟩ | ⟨h5, h6, h7⟩
            · exact .inl ⟨h6, by simpa using h5⟩
            · refine .inr ⟨h5, h6, ?_, h7⟩
              rw [(hm _ _ _ (P.each _ h5 (by omega)).1).1, hd]
          · obtain ⟨t, ht, b1, b2, b3⟩ := a4 j (by omega) y
            refine ⟨t + 1, by simp; omega, by rw [b1]; congr 1; omega, by rw [show i + (t + 1) = i + 1 + t by omega]; exact b2, ?_⟩
            rcases b3 with ⟨b4, b5⟩ | ⟨b4, b5, b6⟩
            · exact .inl ⟨b4, by simpa using b5⟩
            · exact .inr ⟨by omega, b5, b6⟩
        · intro t ht
          match t, ht with
          | 0, _ =>
            refine ⟨by cases e : nm d.f0 with | true => simpa using e | false => exact absurd (.inr e) c1, by simpa using T, fun k hk => ?_⟩
            obtain ⟨x, y, z, t⟩ := P.kin k (by simpa using hk)
            exact ⟨x, by omega, z, by simpa using t⟩
          | t + 1, ht =>
            obtain ⟨b0, b1, b2⟩ := a5 t (by simpa using ht)
            refine ⟨by simpa using b0, by simpa using b1, fun k hk => ?_⟩
            obtain ⟨x, y, z, u⟩ := b2 k (by simpa using hk)
            exact ⟨by omega, y, z, by rw [u]; congr 1; omega⟩
        · intro j x y
          by_cases e : j < n1
          · refine ⟨P.twS j x e, fun k hk => ?_⟩
            obtain ⟨p, q, s, t⟩ := P.sub j x e k hk
            exact ⟨p, by omega, s, by rw [t, (hm _ _ _ (P.each j x e).1).1]⟩
          · exact a6 j (by omega) y
theorem chk_tree {c : Cfg} (h : chk may nm c = true) : Tree c ∧ 1 ≤ c.ds.length ∧ c.ds.length ≤ 16 ∧ c.bs.length ≤ 500 ∧ (∀ t : Nat, t < c.ds.length → nm (dd c.ds t).f0 = true) ∧ ∀ j : Int, 0 ≤ j → j < c.bs.length → may (br c.bs j) (br c.bs j).f3 (br c.bs j).f4 = true := by
  unfold chk at h
  simp only [Bool.and_eq_true, decide_eq_true_eq] at h
  obtain ⟨⟨⟨h1, h2⟩, h3⟩, h4⟩ := h
  obtain ⟨a1, a2, a3, a4, a5, a6⟩ := chD_tree hm c.ds [] 0 0 (by omega) (by omega) (by rw [h4]; omega) List.nodup_nil (nm := nm) (bs := c.bs)
  rw [h4] at a1 a2 a4 a5 a6
  have ed : ∀ t : Nat, dd c.ds (t : Int) = c.ds.getD t zD := fun t => by unfold dd; rw [Int.toNat_natCast]
  refine ⟨⟨?_, ?_, ?_, ?_, ?_, ?_, by simpa using a3⟩, h1, h2, h3, ?_, ?_⟩
  · intro j x y
    obtain ⟨t, ht, e, _⟩ := a4 j x y
    rw [e]; omega
  · intro j x y
    obtain ⟨t, ht, e, _, b⟩ := a4 j x y
    rcases b with ⟨b1, b2⟩ | ⟨b1, b2, b3⟩
    · refine .inl ⟨b1, ?_⟩
      rw [e, Nat.zero_add, ed]; exact b2
    · exact .inr ⟨b1, b2, b3⟩
  · intro d x y k hk
    obtain ⟨t, rfl⟩ := Int.eq_ofNat_of_zero_le x
    rw [ed] at hk
    obtain ⟨_, _, b⟩ := a5 t (by omega)
    obtain ⟨p, q, r, s⟩ := b k hk
    exact ⟨p, q, r, by rw [s]; simp⟩
  · intro i x y k hk
    exact (a6 i x y).2 k hk
  · intro d x y
    obtain ⟨t, rfl⟩ := Int.eq_ofNat_of_zero_le x
    rw [ed]
    exact (a5 t (by omega)).2.1
  · intro i x y
    exact (a6 i x y).1
  · intro t ht
    rw [ed]; exact (a5 t ht).1
  · intro j x y
    obtain ⟨t, ht, e, m1, _⟩ := a4 j x y
    rw [e]; exact m1
end
end Go.Proofs.Ytipbigdpannlcaa.Tr
