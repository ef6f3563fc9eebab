-- WRITTEN BY THIS SESSION'S lawrow.py: a law with struct parameters
import Derived.Test.YtofebccpghkmgaaRows
import Derived.Test.YtofebccpghkmgaaPJudgeSumsx15
import Derived.Test.YtofebccpghkmgaaPureJudgeOf
import Derived.Deep.Slices
import Derived.Deep.Fields
import Derived.ChangeSame
import Derived.Lib.SmallJoins
import Derived.WalkKit
import Derived.ProofKit
import Derived.OpenShut
import Derived.ShutString
import Derived.ChangeOld
import Derived.Below
import Derived.SizedLaws
namespace Go.Proofs.Ytofebccpghkmgaa.judgeOf
open Go.ChangeShapes Go.WideShapes Go.ChangeAt Go.RowKit
open Go.ChangeMaps (open_string shut_string)
open Go.Proofs.Ytofebccpghkmgaa.PJudgeSums Go.Proofs.YtofebccpghkmgaaW.PrintWords Go.Proofs.YtofebccpghkmgaaW.PrintLast Go.Proofs.YtofebccpghkmgaaW.PrintMore
set_option linter.unusedVariables false

theorem trod_float64 {H : Type} {enc : TypeId × Value → H} {P : Program} {w : World} {base : Nat} {spare : Nat → Bool} {held : Bool} {t : TypeId} {fuel : Nat} {c : Value} {x : DataW H × List MemPlace} (ht : P.underlying t = some (.float .f64)) (h : DataW.trod enc P w base spare held fuel t [c] = some x) : ∃ b, [c] = [.float .f64 b] ∧ (Lit.float .f64 b).wf = true := by
  cases fuel with
  | zero => simp [DataW.trod] at h
  | succ n =>
    unfold DataW.trod at h
    rw [ht] at h
    split at h <;> simp_all
set_option maxRecDepth 100000 in
theorem open_rule {H : Type} {enc : TypeId × Value → H} {v : Value} {d : DataW H} {p : List MemPlace} {W : World} {b0 : Nat} (hv : Value.okWide Try.prog W .any b0 24 v) (h : DataW.Trod enc Try.prog W 0 (fun _ => true) true 24 v d p) :
    ∃ (x0 : ByteArray) (x1 : Int) (x2 : Int) (x3 : Nat) (x4 : Bool) (x5 : Bool), v = .agg #[.string x0, .int .i64 x1, .int .i64 x2, .float .f64 x3, .bool x4, .bool x5] ∧ x0.size ≤ maxLen ∧ (Lit.int .i64 x1).wf = true ∧ (Lit.int .i64 x2).wf = true ∧ (Lit.float .f64 x3).wf = true ∧ ∀ x ∈ p, x.block < W.heap.size := by
  have hlt : ∀ x ∈ p, x.block < W.heap.size := by obtain ⟨m, hm⟩ := h; exact DataW.trod_lt m _ _ _ hm
  obtain ⟨cs, rfl, hsz⟩ := okWide_struct Try.underlying24 hv
  obtain ⟨fuel, hf⟩ := h
  obtain ⟨xs, n, _, hx, _, hlen, hg⟩ := DataW.trod_struct Try.underlying24 hf
  have h0 := hg 0 _ rfl
  have h1 := hg 1 _ rfl
  have h2 := hg 2 _ rfl
  have h3 := hg 3 _ rfl
  have h4 := hg 4 _ rfl
  have h5 := hg 5 _ rfl
  obtain ⟨l0⟩ := cs
  match l0, hsz.trans (show Try.prog.cellsOf 24 = 6 by kernel_rfl) with
  | [c0, c1, c2, c3, c4, c5], _ =>
    match xs, hlen with
    | [y0, y1, y2, y3, y4, y5], _ =>
      have g0 : DataW.trod enc Try.prog W 0 (fun _ => true) true n 9 [c0] = some y0 := h0
      obtain ⟨x0, e0, _, w0⟩ := DataW.trod_string Try.underlying9 g0
      obtain rfl : c0 = .string x0 := by simpa using e0
      have g1 : DataW.trod enc Try.prog W 0 (fun _ => true) true n 3 [c1] = some y1 := h1
      obtain ⟨x1, e1, _, w1⟩ := DataW.trod_int Try.underlying3 g1
      obtain rfl : c1 = .int .i64 x1 := by simpa using e1
      have g2 : DataW.trod enc Try.prog W 0 (fun _ => true) true n 3 [c2] = some y2 := h2
      obtain ⟨x2, e2, _, w2⟩ := DataW.trod_int Try.underlying3 g2
      obtain rfl : c2 = .int .i64 x2 := by simpa using e2
      have g3 : DataW.trod enc Try.prog W 0 (fun _ => true) true n 22 [c3] = some y3 := h3
      obtain ⟨x3, e3, w3⟩ := trod_float64 Try.underlying22 g3
      obtain rfl : c3 = .float .f64 x3 := by simpa using e3
      have g4 : DataW.trod enc Try.prog W 0 (fun _ => true) true n 4 [c4] = some y4 := h4
      obtain ⟨x4, e4, _⟩ := DataW.trod_bool Try.underlying4 g4
      obtain rfl : c4 = .bool x4 := by simpa using e4
      have g5 : DataW.trod enc Try.prog W 0 (fun _ => true) true n 4 [c5] = some y5 := h5
      obtain ⟨x5, e5, _⟩ := DataW.trod_bool Try.underlying4 g5
      obtain rfl : c5 = .bool x5 := by simpa using e5
      exact ⟨x0, x1, x2, x3, x4, x5, rfl, w0, w1, w2, w3, hlt⟩
theorem own : ownKnob Try.prog.godebug = none := by kernel_rfl
theorem laidOut : laidOutB Try.prog = true := by kernel_rfl
set_option maxRecDepth 100000 in
theorem lifted (os : Os) (started : os.Started) (H : Type) (enc : TypeId × Value → H) :
    ReturnsInHanded {} Try.checked os 6 .any (Rows.judgeOfSpec.pre6 enc Try.prog Try.f6 Rows.judgeOfRow.domain false) (Rows.judgeOfSpec.post enc Try.prog Try.f6 false true false false) := by
  refine returnsInHanded_of_change_sized (C := Try.checked) own started (by kernel_rfl) Try.func6
    (ChangeSpec.witness6 (enc := enc) (C := Try.checked) false ⟨#[], #[.agg #[.string ByteArray.empty, .int .i64 0, .int .i64 0, .float .f64 0, .bool false, .bool false], .int .u64 0, .int .i64 0, .int .i64 0], []⟩ 8 (by kernel_rfl) (by kernel_rfl) (by kernel_rfl) (by kernel_rfl)) ?_
  intro W base args ds gs before hval0 hW hcnd hsz0 _
  have hsz : (DataW.weightsEach Try.prog (Try.f6.params.toList ++ Rows.judgeOfSpec.plain.varTypes Try.prog) (ds ++ gs)).all (· ≤ reachBytes) = true := hsz0
  have hval : ∀ (j : Nat) t v, Try.f6.params[j]? = some t → args[j]? = some v → Value.okWide Try.prog W .any base t v := hval0
  have hW' := hW
  obtain ⟨p, q, hA0, hV, rfl, hfz, hnd⟩ := hW
  have hA : DataW.TrodAll enc Try.prog W 0 (fun _ => true) true Try.f6.params.toList args.toList ds p := hA0
  rw [Try.params6] at hA hval hsz
  obtain ⟨v0, vs0, d0, ds0, p0, q0, hargs, rfl, rfl, h0, r0⟩ := trodAll_cons hA
  obtain ⟨v1, vs1, d1, ds1, p1, q1, rfl, rfl, rfl, h1, r1⟩ := trodAll_cons r0
  obtain ⟨v2, vs2, d2, ds2, p2, q2, rfl, rfl, rfl, h2, r2⟩ := trodAll_cons r1
  obtain ⟨v3, vs3, d3, ds3, p3, q3, rfl, rfl, rfl, h3, r3⟩ := trodAll_cons r2
  obtain ⟨rfl, rfl, rfl⟩ := trodAll_nil r3
  obtain rfl : args = #[v0, v1, v2, v3] := by cases args; simp_all
  obtain ⟨rfl, rfl⟩ := trodVars_none hV
  obtain ⟨a0_0, a0_1, a0_2, a0_3, a0_4, a0_5, rfl, w0_0, w0_1, w0_2, w0_3, lt0⟩ := open_rule (hval 0 24 v0 rfl rfl) h0
  obtain ⟨a1, rfl, rfl, rfl, w1⟩ := open_int Try.underlying25 (hval 1 25 v1 rfl rfl) h1
  obtain ⟨a2, rfl, rfl, rfl, w2⟩ := open_int Try.underlying3 (hval 2 3 v2 rfl rfl) h2
  obtain ⟨a3, rfl, rfl, rfl, w3⟩ := open_int Try.underlying3 (hval 3 3 v3 rfl rfl) h3
  clear hA0 hval0 hsz0 hsz
  obtain ⟨k, hk⟩ := Pure.JudgeOf a0_0 a0_1 a0_2 a0_3 a0_4 a0_5 a1 a2 a3 w0_0 w0_1 w0_2 w0_3 w1 w2 w3
  refine (PJudgeSums.turncocklaw26_JudgeOf.calls k a0_0 a0_1 a0_2 a0_3 a0_4 a0_5 a1 a2 a3 true W hk rfl).mono fun e W' ⟨he, bel⟩ => ?_
  subst he
  exact ⟨_, rfl, _, _, _, [], _, [], hW', trodAll_mk1 (shut_bool Try.underlying4 _), (trodAll_cons_mk (Below.trod laidOut (by kernel_rfl) (of_decide_eq_true (by kernel_rfl)) h0 bel lt0) (trodAll_cons_mk (shut_int Try.underlying25 w1) (trodAll_cons_mk (shut_int Try.underlying3 w2) (trodAll_cons_mk (shut_int Try.underlying3 w3) trodAll_mk0)))), rfl, bel.frame _, fun h => by cases h⟩
theorem over : Rows.judgeOfRow.holds Try.pinned (OpenSpec.ofChange Rows.judgeOfSpec) :=
  OpenClaim.holds_of_wide 6 Try.f6 rfl rfl rfl rfl rfl rfl rfl ⟨rfl, rfl, rfl, rfl, rfl⟩ rfl rfl rfl rfl rfl (by kernel_rfl) Try.func6 (by kernel_rfl)
    (of_decide_eq_true (by kernel_rfl)) (by unfold Func.isWrapper; first | (rw [if_pos (by decide +kernel)]; kernel_rfl) | (rw [if_neg (by decide +kernel)]; exact ⟨rfl, rfl⟩))
    (fun os started H enc _ => lifted os started H enc)
theorem proved : Rows.JudgeOfSaid := over
#print axioms proved
end Go.Proofs.Ytofebccpghkmgaa.judgeOf
namespace Go.Proofs.Ytofebccpghkmgaa
/-- The row, under a short name, for the claim. -/
theorem judgeOf_holds : Rows.JudgeOfSaid := judgeOf.proved
end Go.Proofs.Ytofebccpghkmgaa
