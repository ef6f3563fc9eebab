/- What the law TriePaths uses, thinned: printed by shake2.py. -/
import Derived.Test.YtipbigdpannlcaaTTriePathsOTL2
import Derived.Test.YtipbigdpannlcaaTTriePathsOTLa
import Derived.Test.YtipbigdpannlcaaTTriePathsOTN
import Derived.Test.YtipbigdpannlcaaTTriePathsOTU
namespace Go.Proofs.Ytipbigdpannlcaa.Tr
open Go.RowKit Go.Proofs.Ytipbigdpannlcaa.PTrieFits Go.Proofs.Ytipbigdpannlcaa.Pure Go.Proofs.YtipbigdpannlcaaW.PrintWords Go.Proofs.YtipbigdpannlcaaW.PrintLast Go.Proofs.YtipbigdpannlcaaW.PrintMore
set_option maxRecDepth 100000
set_option linter.unusedVariables false
set_option linter.unusedSimpArgs false
theorem wf_cfg {c : Cfg} (h : MkOk c) : ∀ d ∈ c.ds, WfD d := fun d hd => by have := h.wd d hd; show d.f0.size ≤ 9223372036854775807; omega
theorem boxed (w : World) (cs0 : Array Value) (T : TypeId) (seg : List Value) (hs : seg.length = cs0.size) :
    Below w.heap.size w ((w.alloc (.cells cs0 T)).setCells w.heap.size 0 seg) ∧ ((w.alloc (.cells cs0 T)).setCells w.heap.size 0 seg).heap[w.heap.size]? = some (.cells seg.toArray T (0, 0)) := by
  obtain ⟨h1, h2, h3, h4⟩ := setCells_same w.heap.size seg 0 (w.alloc (.cells cs0 T))
  have hb := below_alloc (Below.refl w.heap.size w) (.cells cs0 T)
  refine ⟨⟨h1.trans hb.os, h2.trans hb.tape, h3.trans hb.output, by rw [h4]; exact hb.size, fun k hk => (setCells_far seg 0 k (by omega)).trans (hb.block k hk)⟩, ?_⟩
  refine blk_cells (o := 0) (cur := cs0) (blk_new w _) (by omega) ?_
  rw [Nat.zero_add, hs, ← Array.length_toList, List.drop_length]
  simp
end Go.Proofs.Ytipbigdpannlcaa.Tr
