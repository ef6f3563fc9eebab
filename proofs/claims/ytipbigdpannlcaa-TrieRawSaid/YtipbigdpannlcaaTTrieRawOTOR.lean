/- What the law TrieRaw uses, thinned: printed by shake2.py. -/
import Derived.Test.YtipbigdpannlcaaTTrieRawOTO
import Derived.Test.YtipbigdpannlcaaTTrieRawOTRaw
namespace Go.Proofs.Ytipbigdpannlcaa.Tr
open Go.RowKit Go.Proofs.YtipbigdpannlcaaW.PrintWords Go.Proofs.YtipbigdpannlcaaW.PrintLast Go.Proofs.Ytipbigdpannlcaa.PTrieFits Go.Proofs.Ytipbigdpannlcaa.Pure
theorem raw_calls (v : CfV) (c : Cfg) (W : World) (cf : CfC W v c) (wf : ∀ b ∈ c.bs, WfB b) (wd : ∀ d ∈ c.ds, WfD d) :
    Calls Try.prog 5 #[v.val c] W fun e w' => e = .returned (.bool true) ∧ Below W.heap.size W w' := raw_any cf wf wd
end Go.Proofs.Ytipbigdpannlcaa.Tr
