/- What the law TrieFits uses, thinned: printed by shake2.py. -/
import Derived.Test.YtipbigdpannlcaaTTrieFitsOTG
namespace Go.Proofs.Ytipbigdpannlcaa.Tr
open Go.RowKit Go.Proofs.Ytipbigdpannlcaa.PTrieFits Go.Proofs.Ytipbigdpannlcaa.Pure Go.Proofs.YtipbigdpannlcaaW.PrintWords Go.Proofs.YtipbigdpannlcaaW.PrintLast Go.Proofs.YtipbigdpannlcaaW.PrintMore
set_option maxRecDepth 100000
set_option linter.unusedVariables false
set_option linter.unusedSectionVars false
def keysL : List ByteArray := [⟨#[117, 115, 101, 114]⟩, ⟨#[105, 112]⟩, ⟨#[112, 97, 116, 104]⟩, ⟨#[97, 32, 98]⟩, ⟨#[107, 44, 61, 124, 37]⟩]
def valsL : List ByteArray := [⟨#[97, 108]⟩, ⟨#[98, 111, 98]⟩, ⟨#[]⟩, ⟨#[120, 32, 121]⟩, ⟨#[49, 48, 46, 48, 46, 48, 46, 49]⟩, ⟨#[0, 255]⟩, ⟨#[97, 34, 98, 39, 35]⟩]
def domsL : List ByteArray := [⟨#[115, 104, 111, 112]⟩, ⟨#[112, 97, 121]⟩, ⟨#[97, 124, 98]⟩]
def zRU : RUL := ⟨⟨#[]⟩, 0, 0, 0, false, false⟩
def setK (b : BR) (ks : List Int) : BR := ⟨b.f0, b.f1, b.f2, b.f3, b.f4, b.f5, b.f6, ks⟩
def setR (b : BR) (r : RUL) : BR := ⟨b.f0, b.f1, b.f2, b.f3, b.f4, true, r, b.f7⟩
section
variable (L : List Int)
def mkB (dom up p : Int) : BR × Int :=
  if (nx L (nx L p 3).2 2).1 == 0 then (⟨rdOf ByteArray.empty keysL (nx L p 3).1, ⟨#[]⟩, true, dom, up, false, zRU, []⟩, (nx L (nx L p 3).2 2).2)
  else (⟨rdOf ByteArray.empty keysL (nx L p 3).1, (ofB L (nx L (nx L p 3).2 2).2 valsL).1, false, dom, up, false, zRU, []⟩, (ofB L (nx L (nx L p 3).2 2).2 valsL).2)
def mkR (b : BR) (p : Int) : BR × Int := if 0 < (nx L p 5).1 then (setR b (ruB L (nx L p 5).2).1, (ruB L (nx L p 5).2).2) else (b, (nx L p 5).2)
def bl (dom up : Int) (deep : Bool) (rec_ : Int → List BR → Int → List Int × List BR × Int) : Nat → List BR → Int → List Int → List Int × List BR × Int
  | 0, bs, p, out => (out, bs, p)
  | m + 1, bs, p, out =>
    if bs.length < 40 then
      if out.any (fun j => twinB (br bs j) (mkB L dom up p).1) = true then bl dom up deep rec_ m bs (mkB L dom up p).2 out
      else
        if deep = true then
          if (nx L (mkR L (mkB L dom up p).1 (mkB L dom up p).2).2 3).1 = 0 then
            bl dom up deep rec_ m
              ((rec_ bs.length (bs ++ [(mkR L (mkB L dom up p).1 (mkB L dom up p).2).1]) (nx L (mkR L (mkB L dom up p).1 (mkB L dom up p).2).2 3).2).2.1.set bs.length
                (setK (mkR L (mkB L dom up p).1 (mkB L dom up p).2).1 (rec_ bs.length (bs ++ [(mkR L (mkB L dom up p).1 (mkB L dom up p).2).1]) (nx L (mkR L (mkB L dom up p).1 (mkB L dom up p).2).2 3).2).1))
              (rec_ bs.length (bs ++ [(mkR L (mkB L dom up p).1 (mkB L dom up p).2).1]) (nx L (mkR L (mkB L dom up p).1 (mkB L dom up p).2).2 3).2).2.2 (out ++ [(bs.length : Int)])
          else bl dom up deep rec_ m (bs ++ [(mkR L (mkB L dom up p).1 (mkB L dom up p).2).1]) (nx L (mkR L (mkB L dom up p).1 (mkB L dom up p).2).2 3).2 (out ++ [(bs.length : Int)])
        else bl dom up deep rec_ m (bs ++ [(mkR L (mkB L dom up p).1 (mkB L dom up p).2).1]) (mkR L (mkB L dom up p).1 (mkB L dom up p).2).2 (out ++ [(bs.length : Int)])
    else (out, bs, p)
def brs (dom : Int) : Nat → Int → List BR → Int → List Int × List BR × Int
  | 0, _, bs, p => ([], bs, p)
  | f + 1, up, bs, p => bl L dom up (decide (0 < f)) (fun u bs p => brs dom f u bs p) (1 + (nx L p 3).1).toNat bs (nx L p 3).2 []
def dl : Nat → Nat → List DO → List BR → Int → Cfg
  | 0, _, ds, bs, _ => ⟨ds, bs⟩
  | m + 1, i, ds, bs, p =>
    if i = 0 then dl m (i + 1) (ds ++ [⟨domsL.getD i ⟨#[]⟩, (brs L i 4 (-1) bs p).1⟩]) (brs L i 4 (-1) bs p).2.1 (brs L i 4 (-1) bs p).2.2
    else if (nx L p 2).1 = 0 then dl m (i + 1) (ds ++ [⟨domsL.getD i ⟨#[]⟩, (brs L i 4 (-1) bs (nx L p 2).2).1⟩]) (brs L i 4 (-1) bs (nx L p 2).2).2.1 (brs L i 4 (-1) bs (nx L p 2).2).2.2
    else dl m (i + 1) (ds ++ [⟨domsL.getD i ⟨#[]⟩, []⟩]) bs (nx L p 2).2
def mkCfg : Cfg := dl L (1 + (nx L 0 2).1).toNat 0 [] [] (nx L 0 2).2
end
theorem keys_ok : (keysL.take 3 |>.all fun s => nameB s && decide (s.size ≤ 4)) = true := by decide +kernel
theorem vals_ok : (valsL.all fun s => decide ((s.size : Int) ≤ 128)) = true := by decide
theorem sameV_zero : sameV (⟨#[]⟩ : ByteArray) ⟨#[]⟩ 0 0 0 0 0 0 false false false false = true := sameV_refl _ _ _ _ _ _
theorem wf_mk {k v : ByteArray} (a : Bool) (dom up : Int) (hk : k.size ≤ 4) (hv : (v.size : Int) ≤ 128) : WfB ⟨k, v, a, dom, up, false, zRU, []⟩ :=
  ⟨show k.size ≤ _ by omega, show v.size ≤ _ by omega, show (⟨#[]⟩ : ByteArray).size ≤ _ by decide, show (0 : Nat) < _ by decide⟩
theorem may_mk {k v : ByteArray} (a : Bool) (dom up : Int) (hk : nameB k = true) (hv : (v.size : Int) ≤ 128) (ha : a = true → v.toList = []) : mayB ⟨k, v, a, dom, up, false, zRU, []⟩ dom up = true := by
  unfold mayB restB
  dsimp only
  rw [hk, decide_eq_true rfl, decide_eq_true rfl, decide_eq_true hv, if_neg (by decide), show (zRU).f0 = ⟨#[]⟩ from rfl, show (zRU).f1 = 0 from rfl, show (zRU).f2 = 0 from rfl, show (zRU).f3 = 0 from rfl, show (zRU).f4 = false from rfl, show (zRU).f5 = false from rfl, sameV_zero]
  cases a with
  | false => rfl
  | true => rw [ha rfl]; rfl
section
variable {L : List Int} (hL : L.length ≤ 1000000)
include hL
theorem mkB_ok (dom up : Int) {p : Int} (hp : TS L p) : (mayB (mkB L dom up p).1 dom up = true ∧ WfB (mkB L dom up p).1 ∧ (mkB L dom up p).1.f5 = false ∧ (mkB L dom up p).1.f7 = []) ∧ TS L (mkB L dom up p).2 := by
  obtain ⟨e0, a0, b0, t0⟩ := nx_f hL hp (n := 3) (by omega) (by omega)
  obtain ⟨e1, a1, b1, t1⟩ := nx_f hL t0 (n := 2) (by omega) (by omega)
  have hk : rdOf ByteArray.empty keysL (nx L p 3).1 ∈ keysL.take 3 := by
    have : (nx L p 3).1 = 0 ∨ (nx L p 3).1 = 1 ∨ (nx L p 3).1 = 2 := by omega
    rcases this with h | h | h <;> rw [h] <;> simp [rdOf, keysL]
  have hk := List.all_eq_true.1 keys_ok _ hk
  simp only [Bool.and_eq_true, decide_eq_true_eq] at hk
  unfold mkB
  by_cases h : ((nx L (nx L p 3).2 2).1 == 0) = true
  · rw [if_pos h]
    exact ⟨⟨may_mk _ _ _ hk.1 (by decide) (fun _ => by decide +kernel), wf_mk _ _ _ hk.2 (by decide), rfl, rfl⟩, t1⟩
  · rw [if_neg h]
    obtain ⟨e2, a2, t2⟩ := of_f hL t1 (l := valsL) (by decide) (by decide)
    have hv := List.all_eq_true.1 vals_ok _ a2
    simp only [decide_eq_true_eq] at hv
    exact ⟨⟨may_mk _ _ _ hk.1 hv (fun e => by cases e), wf_mk _ _ _ hk.2 hv, rfl, rfl⟩, t2⟩
theorem mkR_ok {b : BR} {dom up : Int} (hb : mayB b dom up = true ∧ WfB b ∧ b.f5 = false ∧ b.f7 = []) {p : Int} (hp : TS L p) : (mayB (mkR L b p).1 dom up = true ∧ WfB (mkR L b p).1 ∧ (mkR L b p).1.f7 = [] ∧ (∀ x, twinB x (mkR L b p).1 = twinB x b)) ∧ TS L (mkR L b p).2 := by
  obtain ⟨e0, a0, b0, t0⟩ := nx_f hL hp (n := 5) (by omega) (by omega)
  unfold mkR
  by_cases h : 0 < (nx L p 5).1
  · rw [if_pos h]
    obtain ⟨e1, r1, t1⟩ := ru_f hL t0
    refine ⟨⟨?_, ⟨hb.2.1.s0, hb.2.1.s1, ?_, r1.x3⟩, hb.2.2.2, fun x => rfl⟩, t1⟩
    · have := hb.1
      unfold mayB at this ⊢
      simp only [Bool.and_eq_true] at this ⊢
      refine ⟨this.1, this.2.1, this.2.2.1, this.2.2.2.1, this.2.2.2.2.1, ?_⟩
      show restB (setR b _) = true
      unfold restB setR
      rw [if_pos rfl]; exact r1.ck
    · have := r1.s0
      show ByteArray.size _ ≤ _
      exact Nat.le_trans this (by decide)
  · rw [if_neg h]
    exact ⟨⟨hb.1, hb.2.1, hb.2.2.2, fun x => rfl⟩, t0⟩
end
def Agr (a b : List BR) (p q : Nat) : Prop := ∀ j : Nat, p ≤ j → j < q → a.getD j zB = b.getD j zB
theorem Agr.br {a b : List BR} {p q : Nat} (h : Agr a b p q) {j : Int} (h0 : (p : Int) ≤ j) (h1 : j < q) : Tr.br a j = Tr.br b j := h j.toNat (by omega) (by omega)
theorem Agr.trans {a b c : List BR} {p q : Nat} (h : Agr a b p q) (k : Agr b c p q) : Agr a c p q := fun j x y => (h j x y).trans (k j x y)
theorem Agr.sub {a b : List BR} {p q p' q' : Nat} (h : Agr a b p q) (h0 : p ≤ p') (h1 : q' ≤ q) : Agr a b p' q' := fun j x y => h j (by omega) (by omega)
theorem getD_app {a : List BR} (x : List BR) {j : Nat} (h : j < a.length) : (a ++ x).getD j zB = a.getD j zB := by
  rw [List.getD_eq_getElem?_getD, List.getElem?_append_left h, List.getD_eq_getElem?_getD]
theorem getD_last (a : List BR) (b : BR) : (a ++ [b]).getD a.length zB = b := by simp
theorem getD_set_ne (a : List BR) (b : BR) {i j : Nat} (h : i ≠ j) : (a.set i b).getD j zB = a.getD j zB := by
  rw [List.getD_eq_getElem?_getD, List.getElem?_set_ne h, List.getD_eq_getElem?_getD]
theorem getD_set_eq (a : List BR) (b : BR) {i : Nat} (h : i < a.length) : (a.set i b).getD i zB = b := by
  rw [List.getD_eq_getElem?_getD, List.getElem?_set_self h]; rfl
structure Made (L : List Int) (dom up deep : Int) (F : Nat) (bs : List BR) (ah : List Int) (r : List Int × List BR × Int) : Prop where
  le : bs.length ≤ r.2.1.length
  hi : r.2.1.length ≤ 40
  old : Agr r.2.1 bs 0 bs.length
  wf : ∀ b ∈ r.2.1, WfB b
  ts : TS L r.2.2
  walk : ∃ out1, r.1 = ah ++ out1 ∧ ∀ cs : List BR, r.2.1.length ≤ cs.length → ∀ N : Nat, N ≤ bs.length → (∀ j ∈ ah, (N : Int) ≤ j ∧ j < bs.length) → Agr cs r.2.1 N r.2.1.length → wkl mayB cs dom up deep (fun ks u n => wk mayB cs dom F ks u n (deep + 1)) ah out1 bs.length = r.2.1.length
section
variable {L : List Int} (hL : L.length ≤ 1000000)
include hL
theorem wkl_step {cs : List BR} {dom up deep : Int} {rec_ : List Int → Int → Int → Int} {ah ks : List Int} {k n1 : Int} (h0 : k < cs.length) (h1 : deep ≤ 8) (h2 : mayB (br cs k) dom up = true) (h3 : ah.any (fun j => twinB (br cs j) (br cs k)) = false) (h4 : rec_ (br cs k).f7 k (k + 1) = n1) (h5 : 0 ≤ n1) :
    wkl mayB cs dom up deep rec_ ah (k :: ks) k = wkl mayB cs dom up deep rec_ (ah ++ [k]) ks n1 := by
  rw [wkl, if_neg (by rw [h2]; simp; omega), if_neg (by rw [h3]; simp), h4, if_neg (by omega)]
theorem any_eq {l : List Int} {f g : Int → Bool} (h : ∀ x ∈ l, f x = g x) : l.any f = l.any g := by
  induction l with
  | nil => rfl
  | cons a l ih => rw [List.any_cons, List.any_cons, h a List.mem_cons_self, ih fun x hx => h x (List.mem_cons_of_mem _ hx)]
theorem made_cons {dom up deep : Int} {F : Nat} {bs b1 : List BR} {out : List Int} {r : List Int × List BR × Int} {c : BR} {ks : List Int}
    (hd : deep ≤ 8) (hm : mayB (setK c ks) dom up = true) (ht : out.any (fun j => twinB (br bs j) c) = false)
    (hle : bs.length < b1.length) (hold : Agr b1 bs 0 bs.length) (hat : b1.getD bs.length zB = setK c ks)
    (hw : ∀ cs : List BR, b1.length ≤ cs.length → Agr cs b1 (bs.length + 1) b1.length → wk mayB cs dom F ks bs.length (bs.length + 1) (deep + 1) = b1.length)
    (h : Made L dom up deep F b1 (out ++ [(bs.length : Int)]) r) : Made L dom up deep F bs out r := by
  obtain ⟨o1, e, w⟩ := h.walk
  have hbl : r.2.1.length ≥ b1.length := h.le
  refine ⟨by omega, h.hi, (h.old.sub (Nat.le_refl 0) (by omega)).trans hold, h.wf, h.ts, (bs.length : Int) :: o1, by rw [e]; simp, ?_⟩
  intro cs hc N hN hah hag
  have k0 : br cs (bs.length : Int) = setK c ks := by
    rw [hag.br (by omega) (by omega)]
    rw [h.old.br (by omega) (by omega)]
    exact hat
  rw [wkl_step (n1 := b1.length) hL (by omega) hd (by rw [k0]; exact hm) ?_ ?_ (by omega)]
  · exact w cs hc N (by omega) (fun j hj => by
      rcases List.mem_append.1 hj with h1 | h1
      · have := hah j h1; omega
      · simp at h1; omega) hag
  · rw [← ht]
    refine any_eq hL fun j hj => ?_
    have := hah j hj
    rw [k0, hag.br (by omega) (by omega), h.old.br (by omega) (by omega), hold.br (by omega) (by omega)]
    rfl
  · rw [k0]
    exact hw cs (by omega) (fun j x y => (hag j (by omega) (by omega)).trans (h.old j (by omega) (by omega)))
theorem bl_made {dom up deep : Int} {dp : Bool} {F : Nat} (hd : deep ≤ 8) (hF : 0 < F) {rec_ : Int → List BR → Int → List Int × List BR × Int}
    (ih : dp = true → ∀ (u : Int) (bs : List BR) (p : Int), bs.length ≤ 40 → (∀ b ∈ bs, WfB b) → TS L p → ∃ F', F = F' + 1 ∧ Made L dom u (deep + 1) F' bs [] (rec_ u bs p)) :
    ∀ (m : Nat) (bs : List BR) (p : Int) (out : List Int), bs.length ≤ 40 → (∀ b ∈ bs, WfB b) → TS L p → Made L dom up deep F bs out (bl L dom up dp rec_ m bs p out) := by
  intro m
  induction m with
  | zero =>
    intro bs p out h40 hwf hp
    exact ⟨Nat.le_refl _, h40, fun j _ _ => rfl, hwf, hp, [], by simp [bl], fun cs hc N hN hah hag => by rw [wkl]; rfl⟩
  | succ m hm =>
    intro bs p out h40 hwf hp
    rw [bl]
    by_cases h : bs.length < 40
    · rw [if_pos h]
      obtain ⟨hb, t1⟩ := mkB_ok hL dom up hp
      by_cases ht : out.any (fun j => twinB (br bs j) (mkB L dom up p).1) = true
      · rw [if_pos ht]; exact hm bs _ out h40 hwf t1
      · rw [if_neg ht]
        obtain ⟨hc, t2⟩ := mkR_ok hL hb t1
        have ht' : out.any (fun j => twinB (br bs j) (mkR L (mkB L dom up p).1 (mkB L dom up p).2).1) = false := by
          rw [any_eq hL (g := fun j => twinB (br bs j) (mkB L dom up p).1) (fun x _ => hc.2.2.2 _)]; simpa using ht
        generalize mkR L (mkB L dom up p).1 (mkB L dom up p).2 = c at hc t2 ht'
        have plain : ∀ q, TS L q → Made L dom up deep F bs out (bl L dom up dp rec_ m (bs ++ [c.1]) q (out ++ [(bs.length : Int)])) := by
          intro q hq
          refine made_cons hL (c := c.1) (ks := []) hd hc.1 ht' (by simp) (fun j _ hj => getD_app _ hj) ?_ ?_ (hm _ q _ (by simp; omega) ?_ hq)
          · rw [getD_last]; show _ = setK c.1 []; unfold setK; rw [← hc.2.2.1]
          · intro cs hcs hag
            obtain ⟨F', rfl⟩ : ∃ F', F = F' + 1 := ⟨F - 1, by omega⟩
            rw [wk, wkl]; simp
          · intro b hb; rcases List.mem_append.1 hb with h1 | h1
            · exact hwf b h1
            · simp at h1; rw [h1]; exact hc.2.1
        by_cases hdp : dp = true
        · rw [if_pos hdp]
          obtain ⟨e3, a3, b3, t3⟩ := nx_f hL t2 (n := 3) (by omega) (by omega)
          by_cases hq : (nx L c.2 3).1 = 0
          · rw [if_pos hq]
            obtain ⟨F', eF, M⟩ := ih hdp bs.length (bs ++ [c.1]) (nx L c.2 3).2 (by simp; omega) (by
              intro b hb; rcases List.mem_append.1 hb with h1 | h1
              · exact hwf b h1
              · simp at h1; rw [h1]; exact hc.2.1) t3
            generalize rec_ bs.length (bs ++ [c.1]) (nx L c.2 3).2 = r at M
            have l1 : (bs ++ [c.1]).length = bs.length + 1 := by simp
            have Mle := M.le
            rw [l1] at Mle
            refine made_cons hL (c := c.1) (ks := r.1) hd hc.1 ht' (by rw [List.length_set]; omega) ?_ (getD_set_eq _ _ (by omega)) ?_ (hm _ _ _ (by rw [List.length_set]; exact M.hi) ?_ M.ts)
            · intro j _ hj
              rw [getD_set_ne _ _ (by omega), M.old j (by omega) (by omega), getD_app _ hj]
            · intro cs hcs hag
              rw [List.length_set] at hcs hag ⊢
              obtain ⟨o1, e, w⟩ := M.walk
              rw [List.nil_append] at e
              rw [eF, wk, e]
              have := w cs hcs (bs.length + 1) (by omega) (fun j hj => by cases hj) (fun j x y => (hag j x y).trans (getD_set_ne _ _ (by omega)))
              rw [l1] at this
              exact_mod_cast this
            · intro b hb
              rcases List.mem_or_eq_of_mem_set hb with h1 | h1
              · exact M.wf b h1
              · rw [h1]; exact ⟨hc.2.1.s0, hc.2.1.s1, hc.2.1.s6, hc.2.1.x6⟩
          · rw [if_neg hq]; exact plain _ t3
        · rw [if_neg hdp]; exact plain _ t2
    · rw [if_neg h]
      exact ⟨Nat.le_refl _, h40, fun j _ _ => rfl, hwf, hp, [], by simp, fun cs hc N hN hah hag => by rw [wkl]⟩
theorem brs_made (dom : Int) : ∀ (f : Nat) (up deep : Int) (F : Nat) (bs : List BR) (p : Int), deep + f ≤ 9 → 0 < f → f < F → bs.length ≤ 40 → (∀ b ∈ bs, WfB b) → TS L p → ∃ F', F = F' + 1 ∧ Made L dom up deep F' bs [] (brs L dom f up bs p) := by
  intro f
  induction f with
  | zero => intro up deep F bs p h1 h0; omega
  | succ f ih =>
    intro up deep F bs p h1 h0 h2 h40 hwf hp
    refine ⟨F - 1, by omega, ?_⟩
    rw [brs]
    obtain ⟨e3, a3, b3, t3⟩ := nx_f hL hp (n := 3) (by omega) (by omega)
    exact bl_made hL (by omega) (by omega) (fun hd u bs p a b c => ih u (deep + 1) (F - 1) bs p (by omega) (by simpa using hd) (by omega) a b c) _ bs _ [] h40 hwf t3
theorem brs_wk (dom : Int) {bs : List BR} {p : Int} (h40 : bs.length ≤ 40) (hwf : ∀ b ∈ bs, WfB b) (hp : TS L p) :
    bs.length ≤ (brs L dom 4 (-1) bs p).2.1.length ∧ (brs L dom 4 (-1) bs p).2.1.length ≤ 40 ∧ Agr (brs L dom 4 (-1) bs p).2.1 bs 0 bs.length ∧ (∀ b ∈ (brs L dom 4 (-1) bs p).2.1, WfB b) ∧ TS L (brs L dom 4 (-1) bs p).2.2 ∧
    ∀ cs : List BR, (brs L dom 4 (-1) bs p).2.1.length ≤ cs.length → Agr cs (brs L dom 4 (-1) bs p).2.1 0 (brs L dom 4 (-1) bs p).2.1.length → wk mayB cs dom 9 (brs L dom 4 (-1) bs p).1 (-1) bs.length 1 = (brs L dom 4 (-1) bs p).2.1.length := by
  obtain ⟨F', e, M⟩ := brs_made hL dom 4 (-1) 1 9 bs p (by omega) (by omega) (by omega) h40 hwf hp
  obtain rfl : F' = 8 := by omega
  refine ⟨M.le, M.hi, M.old, M.wf, M.ts, fun cs hc ha => ?_⟩
  obtain ⟨o1, e1, w⟩ := M.walk
  rw [List.nil_append] at e1
  rw [wk, e1]
  exact w cs hc 0 (by omega) (fun j hj => by cases hj) ha
theorem chD_one {cs : List BR} {seen : List ByteArray} {i : Nat} {d : DO} {r : List DO} {next n1 : Int} (h0 : seen.any (fun s => decide (s = d.f0)) = false) (h1 : nameB d.f0 = true) (h2 : wk mayB cs i 9 d.f1 (-1) next 1 = n1) (h3 : 0 ≤ n1) :
    chD mayB nameB cs seen i (d :: r) next = chD mayB nameB cs (seen ++ [d.f0]) (i + 1) r n1 := by
  rw [chD, if_neg (by rw [h0, h1]; simp), h2, if_neg (by omega)]
structure MkOk (c : Cfg) : Prop where
  ck : chk mayB nameB c = true
  wf : ∀ b ∈ c.bs, WfB b
  wd : ∀ d ∈ c.ds, d.f0.size ≤ 4
  l1 : 1 ≤ c.ds.length
  l2 : c.ds.length ≤ 2
  l40 : c.bs.length ≤ 40
  shop : (dd c.ds 0).f0 = ⟨#[115, 104, 111, 112]⟩
theorem nm0 : nameB (domsL.getD 0 ⟨#[]⟩) = true := by decide +kernel
theorem nm1 : nameB (domsL.getD 1 ⟨#[]⟩) = true := by decide +kernel
theorem mk_one {d : DO} {bs : List BR} (hd : d.f0 = domsL.getD 0 ⟨#[]⟩) (h40 : bs.length ≤ 40) (hwf : ∀ b ∈ bs, WfB b) (hw : wk mayB bs (0 : Nat) 9 d.f1 (-1) 0 1 = bs.length) : MkOk ⟨[d], bs⟩ := by
  refine ⟨?_, hwf, ?_, by simp, by simp, h40, hd⟩
  · unfold chk
    rw [chD_one hL (n1 := bs.length) (by rfl) (by rw [hd]; exact nm0 hL) hw (by omega), chD]
    simp; omega
  · intro x hx; simp at hx; rw [hx, hd]; decide
theorem mk_two {d e : DO} {bs : List BR} {n1 : Int} (hd : d.f0 = domsL.getD 0 ⟨#[]⟩) (he : e.f0 = domsL.getD 1 ⟨#[]⟩) (h40 : bs.length ≤ 40) (hwf : ∀ b ∈ bs, WfB b) (hn : 0 ≤ n1) (hw : wk mayB bs (0 : Nat) 9 d.f1 (-1) 0 1 = n1) (hv : wk mayB bs (1 : Nat) 9 e.f1 (-1) n1 1 = bs.length) : MkOk ⟨[d, e], bs⟩ := by
  refine ⟨?_, hwf, ?_, by simp, by simp, h40, hd⟩
  · unfold chk
    rw [chD_one hL (n1 := n1) (by rfl) (by rw [hd]; exact nm0 hL) hw hn, chD_one hL (n1 := bs.length) (by rw [hd, he]; decide) (by rw [he]; exact nm1 hL) hv (by omega), chD]
    simp; omega
  · intro x hx; simp at hx; rcases hx with hx | hx
    · rw [hx, hd]; decide
    · rw [hx, he]; decide
theorem mk_ok : MkOk (mkCfg L) := by
  obtain ⟨e0, a0, b0, t0⟩ := nx_f hL (p := 0) (n := 2) ⟨by omega, by omega⟩ (by omega) (by omega)
  unfold mkCfg
  have hm : (1 + (nx L 0 2).1).toNat = 1 ∨ (1 + (nx L 0 2).1).toNat = 2 := by omega
  have A := brs_wk hL ((0 : Nat) : Int) (bs := []) (p := (nx L 0 2).2) (by simp) (by intro b hb; cases hb) t0
  generalize (nx L 0 2).2 = p at A
  generalize hx : brs L ((0 : Nat) : Int) 4 (-1) [] p = x at A
  obtain ⟨a1, a2, a3, a4, a5, a6⟩ := A
  have w1 := a6 x.2.1 (Nat.le_refl _) (fun j _ _ => rfl)
  rcases hm with h | h
  · rw [h, dl, if_pos rfl, hx, dl]
    exact mk_one hL rfl a2 a4 w1
  · rw [h, dl, if_pos rfl, hx, dl, if_neg (by omega)]
    obtain ⟨e3, a3', b3, t3⟩ := nx_f hL a5 (n := 2) (by omega) (by omega)
    by_cases hq : (nx L x.2.2 2).1 = 0
    · rw [if_pos hq]
      have B := brs_wk hL ((0 + 1 : Nat) : Int) (bs := x.2.1) (p := (nx L x.2.2 2).2) a2 a4 t3
      generalize hy : brs L ((0 + 1 : Nat) : Int) 4 (-1) x.2.1 (nx L x.2.2 2).2 = y at B
      obtain ⟨b1, b2, b3, b4, b5, b6⟩ := B
      rw [dl]
      exact mk_two hL rfl rfl b2 b4 (n1 := x.2.1.length) (by omega) (a6 _ b1 b3) (b6 _ (Nat.le_refl _) (fun j _ _ => rfl))
    · rw [if_neg hq, dl]
      exact mk_two hL rfl rfl a2 a4 (n1 := x.2.1.length) (by omega) w1 (by rw [wk, wkl])
end
end Go.Proofs.Ytipbigdpannlcaa.Tr
