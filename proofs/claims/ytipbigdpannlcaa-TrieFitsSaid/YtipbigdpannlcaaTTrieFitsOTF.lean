/- What the law TrieFits uses, thinned: printed by shake2.py. -/
import Derived.Test.YtipbigdpannlcaaTTrieFitsOTP
import Derived.Test.YtipbigdpannlcaaTTrieFitsOTC
namespace Go.Proofs.Ytipbigdpannlcaa.Tr
open Go.RowKit Go.Proofs.Ytipbigdpannlcaa.PTrieFits Go.Proofs.Ytipbigdpannlcaa.Pure Go.Proofs.YtipbigdpannlcaaW.PrintWords Go.Proofs.YtipbigdpannlcaaW.PrintLast Go.Proofs.YtipbigdpannlcaaW.PrintMore
set_option maxRecDepth 100000
set_option linter.unusedVariables false
def restB (b : BR) : Bool := if b.f5 = true then checkV b.f6.f0 b.f6.f1 b.f6.f2 b.f6.f3 b.f6.f5 else sameV b.f6.f0 ⟨#[]⟩ b.f6.f1 0 b.f6.f2 0 b.f6.f3 0 b.f6.f4 false b.f6.f5 false
def mayB (b : BR) (dom up : Int) : Bool := decide (b.f3 = dom) && (decide (b.f4 = up) && (nameB b.f0 && (decide ((b.f1.size : Int) ≤ 128) && ((!b.f2 || decide (b.f1.toList = [])) && restB b))))
theorem mayB_of (b : BR) (dom up : Int) (h : mayB b dom up = true) : b.f3 = dom ∧ b.f4 = up := by
  unfold mayB at h
  simp only [Bool.and_eq_true, decide_eq_true_eq] at h
  exact ⟨h.1, h.2.1⟩
theorem ne_nil_bool (l : List UInt8) : (l != ([] : List UInt8)) = !decide (l = []) := by cases l <;> simp
theorem may_f (b : BR) (h : WfB b) (dom up : Int) (k : Nat) (hk : b.f0.size + b.f6.f0.size + 320 ≤ k) : config_may.f k b.f0 b.f1 b.f2 b.f3 b.f4 b.f5 b.f6.f0 b.f6.f1 b.f6.f2 b.f6.f3 b.f6.f4 b.f6.f5 b.f7 dom up = some (mayB b dom up) := by
  obtain ⟨k, rfl⟩ : ∃ m, k = m + 1 := ⟨k - 1, by omega⟩
  have tail : ∀ x : Bool, config_may.j0 (k + 1) x b.f0 b.f1 b.f2 b.f3 b.f4 b.f5 b.f6.f0 b.f6.f1 b.f6.f2 b.f6.f3 b.f6.f4 b.f6.f5 b.f7 = some (!x && restB b) := by
    intro x
    simp only [config_may.j0]
    cases x with
    | true => rw [if_pos rfl]; rfl
    | false =>
      rw [if_neg (by decide)]
      unfold restB
      by_cases h5 : b.f5 = true
      · rw [if_pos h5, if_pos h5, check_f _ _ _ _ _ _ h.s6 h.x6 k (by omega)]
        simp only [Option.bind_some]
        cases checkV b.f6.f0 b.f6.f1 b.f6.f2 b.f6.f3 b.f6.f5 <;> rfl
      · rw [if_neg h5, if_neg h5, rsame_f _ _ _ _ _ _ _ _ _ _ _ _ h.x6 (by omega)]
        rfl
  unfold config_may.f mayB
  by_cases h1 : b.f3 = dom
  · rw [if_pos h1, decide_eq_true h1]
    by_cases h2 : b.f4 = up
    · rw [if_pos h2, decide_eq_true h2, name_f _ h.s0 _ (by omega)]
      simp only [Option.bind_some]
      cases nameB b.f0 with
      | true =>
        rw [if_pos rfl]
        by_cases h3 : (b.f1.size : Int) > 128
        · rw [if_pos h3, tail, decide_eq_false (by omega)]; rfl
        · rw [if_neg h3, decide_eq_true (show (b.f1.size : Int) ≤ 128 by omega)]
          by_cases h4 : b.f2 = true
          · rw [if_pos h4, tail, h4, ne_nil_bool]; simp
          · rw [if_neg h4, tail, Bool.eq_false_iff.2 h4]; simp
      | false => rw [if_neg (by decide), tail]; rfl
    · rw [if_neg h2, decide_eq_false h2, tail]; rfl
  · rw [if_neg h1, decide_eq_false h1, tail]; rfl
end Go.Proofs.Ytipbigdpannlcaa.Tr
