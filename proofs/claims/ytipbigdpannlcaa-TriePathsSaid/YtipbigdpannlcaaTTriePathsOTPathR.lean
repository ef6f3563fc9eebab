/- What the law TriePaths uses, thinned: printed by shake2.py. -/
import Derived.Test.YtipbigdpannlcaaTTriePathsOTPath
namespace Go.Proofs.Ytipbigdpannlcaa.Tr
open Go.RowKit Go.Proofs.YtipbigdpannlcaaW.PrintWords Go.Proofs.YtipbigdpannlcaaW.PrintLast Go.Proofs.Ytipbigdpannlcaa.PTrieFits Go.Proofs.Ytipbigdpannlcaa.Pure
theorem paths_calls (A : Option Addr) (ca : Nat) (N : List Int) (W : World) (hN : Kd.C (Kd.int .i64) W A N.length N) (_ : N.length ≤ ca) :
    Calls Try.prog 4 #[.slice A N.length ca] W fun e w' => e = .returned (.bool true) ∧ Below W.heap.size W w' := paths_law hN
end Go.Proofs.Ytipbigdpannlcaa.Tr
