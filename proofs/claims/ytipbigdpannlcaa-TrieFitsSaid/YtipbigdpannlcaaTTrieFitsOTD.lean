/- What the law TrieFits uses, thinned: printed by shake2.py. -/
import Derived.Test.YtipbigdpannlcaaTTrieFitsOTP
import Derived.Test.YtipbigdpannlcaaTTrieFitsPTrieFitsx14
set_option linter.unusedSimpArgs false
set_option linter.unusedVariables false
namespace Go.Proofs.Ytipbigdpannlcaa.Pure
open Go.RowKit Go.Proofs.Ytipbigdpannlcaa.PTrieFits Go.Proofs.YtipbigdpannlcaaW.PrintWords Go.Proofs.YtipbigdpannlcaaW.PrintLast Go.Proofs.YtipbigdpannlcaaW.PrintMore
open Go.Proofs.Ytipbigdpannlcaa
def nm (s : ByteArray) : Bool := (desc_Name.f (s.size + 2) s).getD false
theorem nm_same (s : ByteArray) (hn : s.size ≤ 9000000000000000000) : (nm s = true → s.size ≤ 64) ∧ ∀ k, s.size + 1 < k → turncockref1_Name.f k s = some (nm s) ∧ desc_Name.f k s = some (nm s) := by
  obtain ⟨b, h1, h2⟩ := name_same s (by omega)
  have e : nm s = b := by unfold nm; rw [(h2 (s.size + 2) (by omega)).2]; rfl
  rw [e]; exact ⟨h1, h2⟩
theorem nm_ev (s : ByteArray) (hn : s.size ≤ 9000000000000000000) : Ev (fun k => desc_Name.f k s) (nm s) := ⟨s.size + 2, fun k hk => ((nm_same s hn).2 k (by omega)).2⟩
def okE (x : S48) : Bool := nm x.f0 && decide (x.f1.size ≤ 128)
def ck (l : List S48) : Bool := decide (1 ≤ l.length) && decide (l.length ≤ 8) && l.all okE
theorem rd_at {l : List S48} {i : Nat} (h : i < l.length) : rd_T48 l (i : Int) = l[i] := by
  unfold rd_T48; rw [Int.toNat_natCast, List.getD_eq_getElem?_getD, List.getElem?_eq_getElem h]; rfl
theorem check_loop (l : List S48) (hl : l.length ≤ 9000000000000000000) (hx : ∀ x ∈ l, x.f0.size ≤ 9000000000000000000) (d : Nat) : ∀ i : Nat, i + d = l.length →
    Ev (fun k => desc_Check.l0 k l (l.length : Int) (i : Int)) (if (l.drop i).all okE = true then 0 else 1) := by
  induction d with
  | zero =>
    intro i hi
    refine Ev.step (f := fun _ => some 0) (fun k => ?_) ?_
    · simp only [desc_Check.l0]; rw [if_neg (by omega)]
    · rw [List.drop_eq_nil_of_le (by omega)]; exact Ev.now 0
  | succ d ih =>
    intro i hi
    have hlt : i < l.length := by omega
    refine Ev.step (f := fun k => (desc_Name.f k (l[i]).f0).bind fun t => if t = true then (if ((l[i]).f1.size : Int) > 128 then some 1 else desc_Check.l0 k l (l.length : Int) ((i + 1 : Nat) : Int)) else some 1) (fun k => ?_) ?_
    · simp only [desc_Check.l0]
      rw [if_pos (by omega), if_pos (by omega), if_pos (by omega), rd_at hlt, step1 hlt (by omega)]
    · refine Ev.bind (nm_ev _ (hx _ (List.getElem_mem hlt))) ?_
      rw [List.drop_eq_getElem_cons hlt, List.all_cons]
      unfold okE
      by_cases h : nm (l[i]).f0 = true
      · by_cases h2 : ((l[i]).f1.size : Int) > 128
        · have h3 : ¬ (l[i]).f1.size ≤ 128 := by omega
          simp only [h, h2, h3, if_true, decide_false, Bool.and_false, Bool.false_and]
          exact Ev.now _
        · have h3 : (l[i]).f1.size ≤ 128 := by omega
          simp only [h, h2, h3, if_true, if_false, decide_true, Bool.and_true, Bool.true_and]
          exact ih (i + 1) (by omega)
      · simp only [Bool.not_eq_true] at h
        simp only [h, Bool.false_eq_true, if_false, Bool.false_and]
        exact Ev.now _
theorem check_ev (l : List S48) (hl : l.length ≤ 9000000000000000000) (hx : ∀ x ∈ l, x.f0.size ≤ 9000000000000000000) :
    Ev (fun k => desc_Check.f k l) (if ck l = true then 0 else 1) := by
  have hc := check_loop l hl hx l.length 0 (by omega)
  unfold desc_Check.f ck
  by_cases h1 : (l.length : Int) < 1
  · simp only [h1, if_true]
    refine Ev.step (f := fun _ => some 1) (fun k => by simp only [desc_Check.j0, if_true]) ?_
    rw [decide_eq_false (show ¬ 1 ≤ l.length by omega)]
    exact Ev.now 1
  · simp only [h1, if_false]
    rw [decide_eq_true (show 1 ≤ l.length by omega)]
    by_cases h2 : (l.length : Int) > 8
    · refine Ev.step (f := fun _ => some 1) (fun k => by simp only [desc_Check.j0, h2, decide_true, if_true]) ?_
      rw [decide_eq_false (show ¬ l.length ≤ 8 by omega)]
      exact Ev.now 1
    · refine Ev.step (f := fun k => desc_Check.l0 k l (l.length : Int) ((0 : Nat) : Int)) (fun k => by simp only [desc_Check.j0, h2, decide_false, Bool.false_eq_true, if_false]; rfl) ?_
      rw [decide_eq_true (show l.length ≤ 8 by omega), Bool.true_and, Bool.true_and]
      exact hc
theorem ck_size {l : List S48} (hx : ∀ x ∈ l, x.f0.size ≤ 9000000000000000000) (h : ck l = true) : 1 ≤ l.length ∧ l.length ≤ 8 ∧ ∀ x ∈ l, x.f0.size ≤ 64 ∧ x.f1.size ≤ 128 := by
  unfold ck at h
  simp only [Bool.and_eq_true, decide_eq_true_eq, List.all_eq_true] at h
  refine ⟨h.1.1, h.1.2, fun x hm => ?_⟩
  have h2 := h.2 x hm
  unfold okE at h2
  simp only [Bool.and_eq_true, decide_eq_true_eq] at h2
  exact ⟨(nm_same x.f0 (hx x hm)).1 h2.1, h2.2⟩
end Go.Proofs.Ytipbigdpannlcaa.Pure
