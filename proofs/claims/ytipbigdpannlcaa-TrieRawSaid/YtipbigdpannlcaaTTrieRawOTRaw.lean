/- What the law TrieRaw uses, thinned: printed by shake2.py. -/
import Derived.Test.YtipbigdpannlcaaTTrieRawOTVC
namespace Go.Proofs.Ytipbigdpannlcaa.Tr
open Go.RowKit Go.Proofs.YtipbigdpannlcaaW.PrintWords Go.Proofs.YtipbigdpannlcaaW.PrintLast Go.Proofs.YtipbigdpannlcaaW.PrintMore Go.Proofs.Ytipbigdpannlcaa.PTrieFits Go.Proofs.Ytipbigdpannlcaa.Pure
set_option maxRecDepth 100000
set_option linter.unusedVariables false
set_option linter.unusedSimpArgs false
set_option maxHeartbeats 4000000 in
theorem raw_any {w : World} {v : CfV} {c : Cfg} (cf : CfC w v c) (wf : ∀ b ∈ c.bs, WfB b) (wd : ∀ d ∈ c.ds, WfD d) :
    Calls Try.prog 5 #[v.val c] w fun e w' => e = .returned (.bool true) ∧ Below w.heap.size w w' := by
  obtain ⟨vA, vc, vB, vd⟩ := v
  have hmxb := Kd.C_max cf.bs
  have hmxd := Kd.C_max cf.ds
  have CF := Aside0.mk cf
  have WF := Aside0.mk wf
  have WD := Aside0.mk wd
  clear cf wf wd
  unfold CfV.val
  dsimp only
  have HG0 := Aside0.mk (blk_new w (.cells #[.slice vA c.ds.length vc, .slice vB c.bs.length vd] 27))
  have HBA := Aside0.mk (below_alloc (Below.refl w.heap.size w) (.cells #[.slice vA c.ds.length vc, .slice vB c.bs.length vd] 27))
  by_cases h2 : 30 < (c.ds.length : Int)
  · have d2 : decide (30 < (c.ds.length : Int)) = true := decide_eq_true h2
    go_enter Try.func5, Try.ntmps5
    go_wp2_with fail
    (with_reducible refine (awake_any _).mono ?_); rintro e w2 ⟨rfl, hb2⟩
    have HB2 := Aside0.mk (below_then HBA.out HBA.out.size hb2)
    clear hb2
    go_wp2
    go_ret
    exact ⟨rfl, HB2.out⟩
  · have d2 : decide (30 < (c.ds.length : Int)) = false := decide_eq_false h2
    by_cases h3 : 60 < (c.bs.length : Int)
    · have d3 : decide (60 < (c.bs.length : Int)) = true := decide_eq_true h3
      go_enter Try.func5, Try.ntmps5
      go_wp2_with fail
      (with_reducible refine (awake_any _).mono ?_); rintro e w2 ⟨rfl, hb2⟩
      have HB2 := Aside0.mk (below_then HBA.out HBA.out.size hb2)
      clear hb2
      go_wp2
      go_ret
      exact ⟨rfl, HB2.out⟩
    · have d3 : decide (60 < (c.bs.length : Int)) = false := decide_eq_false h3
      cases hc : chk mayB nameB c with
      | false =>
        have HNW := Aside0.mk (new_bad (v := ⟨vA, vc, vB, vd⟩) (CF.out.below HBA.out) WF.out WD.out hc)
        have HRC := Aside0.mk (fun (W : World) (hW : Below w.heap.size w W) => rcheck_any (v := ⟨vA, vc, vB, vd⟩) (CF.out.below hW) WF.out WD.out)
        rw [hc] at HRC
        unfold CfV.val at HNW HRC
        dsimp only at HNW HRC
        clear hc
        go_enter Try.func5, Try.ntmps5
        go_wp2_with fail
        (with_reducible refine (HNW.out).mono ?_); rintro e w2 ⟨rfl, hb2⟩
        have HB2 := Aside0.mk (below_then HBA.out HBA.out.size hb2)
        have HG2 := Aside0.mk ((hb2.block _ (blk_lt HG0.out)).trans HG0.out)
        have g0 : w2.cell? ⟨w.heap.size, 0, none⟩ = some (.slice vA c.ds.length vc) := (blk_cell HG2.out 0).trans rfl
        have g1 : w2.cell? ⟨w.heap.size, 1, none⟩ = some (.slice vB c.bs.length vd) := (blk_cell HG2.out 1).trans rfl
        clear hb2 HNW
        go_wp2_with fail
        (with_reducible refine (HRC.out _ HB2.out).mono ?_); rintro e w3 ⟨rfl, hb3⟩
        have HB3 := Aside0.mk (below_then HB2.out HB2.out.size hb3)
        clear hb3 HRC g0 g1
        go_wp2_with fail
        (with_reducible refine (awake_any _).mono ?_); rintro e w4 ⟨rfl, hb4⟩
        have HB4 := Aside0.mk (below_then HB3.out HB3.out.size hb4)
        clear hb4
        go_wp2
        go_ret
        exact ⟨rfl, HB4.out⟩
      | true =>
        have HNW := Aside0.mk (new_ok (v := ⟨vA, vc, vB, vd⟩) (CF.out.below HBA.out) WF.out WD.out hc)
        have HRC := Aside0.mk (fun (W : World) (hW : Below w.heap.size w W) => rcheck_any (v := ⟨vA, vc, vB, vd⟩) (CF.out.below hW) WF.out WD.out)
        rw [hc] at HRC
        unfold CfV.val at HNW HRC
        dsimp only at HNW HRC
        clear hc
        go_enter Try.func5, Try.ntmps5
        go_wp2_with fail
        (with_reducible refine (HNW.out).mono ?_); rintro e w2 ⟨t, rfl, ht, hb2⟩
        have HB2 := Aside0.mk (below_then HBA.out HBA.out.size hb2)
        have HG2 := Aside0.mk ((hb2.block _ (blk_lt HG0.out)).trans HG0.out)
        have g0 : w2.cell? ⟨w.heap.size, 0, none⟩ = some (.slice vA c.ds.length vc) := (blk_cell HG2.out 0).trans rfl
        have g1 : w2.cell? ⟨w.heap.size, 1, none⟩ = some (.slice vB c.bs.length vd) := (blk_cell HG2.out 1).trans rfl
        clear hb2 HNW ht
        go_wp2_with fail
        (with_reducible refine (HRC.out _ HB2.out).mono ?_); rintro e w3 ⟨rfl, hb3⟩
        have HB3 := Aside0.mk (below_then HB2.out HB2.out.size hb3)
        clear hb3 HRC g0 g1
        go_wp2_with fail
        (with_reducible refine (awake_any _).mono ?_); rintro e w4 ⟨rfl, hb4⟩
        have HB4 := Aside0.mk (below_then HB3.out HB3.out.size hb4)
        clear hb4
        go_wp2
        go_ret
        exact ⟨rfl, HB4.out⟩
end Go.Proofs.Ytipbigdpannlcaa.Tr
