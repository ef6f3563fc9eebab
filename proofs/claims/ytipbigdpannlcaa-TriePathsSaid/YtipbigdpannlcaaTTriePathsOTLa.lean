/- What the law TriePaths uses, thinned: printed by shake2.py. -/
import Derived.Test.YtipbigdpannlcaaTTriePathsOTQ
namespace Go.Proofs.Ytipbigdpannlcaa.Tr
open Go.RowKit Go.Proofs.YtipbigdpannlcaaW.PrintWords Go.Proofs.YtipbigdpannlcaaW.PrintLast Go.Proofs.YtipbigdpannlcaaW.PrintMore Go.Proofs.Ytipbigdpannlcaa.PTrieFits Go.Proofs.Ytipbigdpannlcaa.Pure
set_option maxRecDepth 100000
set_option linter.unusedVariables false
set_option linter.unusedSimpArgs false
structure EntOk (bs : List BR) (m : Int) (e : EN) (k : Int) : Prop where
  k0 : 0 ≤ k
  k1 : k < bs.length
  fr : (stepOf (br bs k)).from_ = m
  key : (br bs k).f0 = e.f0
  val : ((br bs k).f2 = false ∧ (br bs k).f1 = e.f1) ∨ ((br bs k).f2 = true ∧ ∀ j : Int, 0 ≤ j → j < bs.length → stepOf (br bs j) ≠ ⟨m, e.f0, e.f1, false⟩)
def Ch (bs : List BR) : Int → List EN → Int → Prop
  | a, [], k => k = a
  | a, e :: r, k => ∃ j, EntOk bs a e j ∧ Ch bs j r k
theorem Ch.snoc {bs : List BR} {e : EN} {k : Int} : ∀ {l : List EN} {a : Int}, Ch bs a (l ++ [e]) k → ∃ m, Ch bs a l m ∧ EntOk bs m e k
  | [], a, h => by
    obtain ⟨j, h1, h2⟩ := h
    have h2 : k = j := h2
    subst h2
    exact ⟨a, rfl, h1⟩
  | x :: l, a, h => by
    obtain ⟨j, h1, h2⟩ := h
    obtain ⟨m, h3, h4⟩ := Ch.snoc h2
    exact ⟨m, ⟨j, h1, h3⟩, h4⟩
end Go.Proofs.Ytipbigdpannlcaa.Tr
