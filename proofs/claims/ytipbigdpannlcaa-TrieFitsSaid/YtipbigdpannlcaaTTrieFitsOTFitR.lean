/- What the law TrieFits uses, thinned: printed by shake2.py. -/
import Derived.Test.YtipbigdpannlcaaTTrieFitsOTFit
namespace Go.Proofs.Ytipbigdpannlcaa.Tr
open Go.RowKit Go.Proofs.YtipbigdpannlcaaW.PrintWords Go.Proofs.YtipbigdpannlcaaW.PrintLast Go.Proofs.Ytipbigdpannlcaa.PTrieFits Go.Proofs.Ytipbigdpannlcaa.Pure
theorem fits_calls (A : Option Addr) (ca : Nat) (N : List Int) (B : Option Addr) (cb : Nat) (M : List Int) (W : World) (hN : Kd.C (Kd.int .i64) W A N.length N) (_ : N.length ≤ ca) (hM : Kd.C (Kd.int .i64) W B M.length M) (_ : M.length ≤ cb) :
    Calls Try.prog 3 #[.slice A N.length ca, .slice B M.length cb] W fun e w' => e = .returned (.bool true) ∧ Below W.heap.size W w' := fits_law hN hM
end Go.Proofs.Ytipbigdpannlcaa.Tr
