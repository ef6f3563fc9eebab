-- WRITTEN BY THIS SESSION'S lawrow.py: a law with struct parameters
import Derived.Test.YtofebccpghkmgaaRows
import Derived.Test.YtofebccpghkmgaaPJudgeStatusx15
import Derived.Test.YtofebccpghkmgaaPureJudgeStatus
import Derived.Deep.Slices
import Derived.Deep.Fields
import Derived.ChangeSame
import Derived.Lib.SmallJoins
import Derived.WalkKit
import Derived.ProofKit
import Derived.OpenShut
import Derived.ShutString
import Derived.ChangeOld
import Derived.Below
import Derived.SizedLaws
namespace Go.Proofs.Ytofebccpghkmgaa.judgeStatus
open Go.ChangeShapes Go.WideShapes Go.ChangeAt Go.RowKit
open Go.ChangeMaps (open_string shut_string)
open Go.Proofs.Ytofebccpghkmgaa.PJudgeStatus Go.Proofs.YtofebccpghkmgaaW.PrintWords Go.Proofs.YtofebccpghkmgaaW.PrintLast Go.Proofs.YtofebccpghkmgaaW.PrintMore
set_option linter.unusedVariables false
section
open Go.ChangeShapes Go.WideShapes Go.Deep Go.RowKit Go.Joins
variable {H : Type} {enc : TypeId × Value → H} {P : Program} {w : World} {base : Nat} {spare : Nat → Bool} {held : Bool}
theorem open_slice_fields {t e : TypeId} {fs : Array Field} {fuel : Nat} {cs : List Value} {x : DataW H × List MemPlace} (ht : P.underlying t = some (.slice e)) (he : P.underlying e = some (.struct fs))
    (hone : oneCellFields P fs = true) (hC : P.cellsOf e = fs.size) (h : DataW.trod enc P w base spare held fuel t cs = some x) :
    (cs = [.slice none 0 0] ∧ x = (.nil, [])) ∨
    ∃ (a : Addr) (len cap m : Nat) (D : Nat → DataW H) (Pl : Nat → List MemPlace), cs = [.slice (some a) len cap] ∧ base ≤ a.block ∧ len ≤ cap ∧ cap ≤ maxLen ∧ m = (if spare a.block then cap else len) ∧
      x = (.slice ((List.range len).map D) ((List.range (m - len)).map fun j => D (len + j)), MemPlace.row a (m * fs.size) ++ (List.range m).flatMap Pl) ∧
      ∀ i, i < m → ∃ (ys : List (DataW H × List MemPlace)) (n : Nat), D i = .agg (ys.map (·.1)) ∧ Pl i = ys.flatMap (·.2) ∧ ys.length = fs.size ∧
        ∀ (j : Nat) (f : Field), fs[j]? = some f → ∃ (v : Value) (y : DataW H × List MemPlace), w.cell? (a.add (i * fs.size + j)) = some v ∧ ys[j]? = some y ∧ DataW.trod enc P w base spare held n f.type [v] = some y := by
  rcases open_slice ht h with h0 | ⟨a, len, cap, m, n, D, Pl, hcs, hb, hl, hm, hmm, hx, hi⟩
  · exact .inl h0
  · refine .inr ⟨a, len, cap, m, D, Pl, hcs, hb, hl, hm, hmm, by rw [hC] at hx; exact hx, fun i him => ?_⟩
    obtain ⟨cs', hc, ht'⟩ := hi i him
    rw [hC] at hc
    obtain ⟨ys, n', hn', hy, hlen, hyl, hf⟩ := DataW.trod_struct he ht'
    obtain ⟨_, hcl, hat⟩ := World.cells?_some hc
    simp only [Prod.mk.injEq] at hy
    refine ⟨ys, n', hy.1, hy.2, hyl, fun j f hj => ?_⟩
    obtain ⟨ho, hk⟩ := hone_of hone j f hj
    have hjl : j < fs.size := (Array.getElem?_eq_some_iff.1 hj).1
    have hcell := hat j hjl
    have hv : cs'[j]? = some (cs'[j]'(by omega)) := List.getElem?_eq_getElem (by omega)
    have h1 := hf j f hj
    rw [ho, hk] at h1
    have hone' : (cs'.drop j).take 1 = [cs'[j]'(by omega)] := by
      rw [List.drop_eq_getElem_cons (by omega)]
      rfl
    rw [hone'] at h1
    have hys : ys[j]? = some (ys[j]'(by omega)) := List.getElem?_eq_getElem (by omega)
    refine ⟨_, _, ?_, hys, h1.trans hys⟩
    rw [← Go.Deep.add_add, hcell, hv]
end
theorem trod_float64 {H : Type} {enc : TypeId × Value → H} {P : Program} {w : World} {base : Nat} {spare : Nat → Bool} {held : Bool} {t : TypeId} {fuel : Nat} {c : Value} {x : DataW H × List MemPlace} (ht : P.underlying t = some (.float .f64)) (h : DataW.trod enc P w base spare held fuel t [c] = some x) : ∃ b, [c] = [.float .f64 b] ∧ (Lit.float .f64 b).wf = true := by
  cases fuel with
  | zero => simp [DataW.trod] at h
  | succ n =>
    unfold DataW.trod at h
    rw [ht] at h
    split at h <;> simp_all
set_option maxRecDepth 100000 in
theorem open_rule {H : Type} {enc : TypeId × Value → H} {v : Value} {d : DataW H} {p : List MemPlace} {W : World} {b0 : Nat} (hv : Value.okWide Try.prog W .any b0 24 v) (h : DataW.Trod enc Try.prog W 0 (fun _ => true) true 24 v d p) :
    ∃ (x0 : ByteArray) (x1 : Int) (x2 : Int) (x3 : Nat) (x4 : Bool) (x5 : Bool), v = .agg #[.string x0, .int .i64 x1, .int .i64 x2, .float .f64 x3, .bool x4, .bool x5] ∧ x0.size ≤ maxLen ∧ (Lit.int .i64 x1).wf = true ∧ (Lit.int .i64 x2).wf = true ∧ (Lit.float .f64 x3).wf = true ∧ ∀ x ∈ p, x.block < W.heap.size := by
  have hlt : ∀ x ∈ p, x.block < W.heap.size := by obtain ⟨m, hm⟩ := h; exact DataW.trod_lt m _ _ _ hm
  obtain ⟨cs, rfl, hsz⟩ := okWide_struct Try.underlying24 hv
  obtain ⟨fuel, hf⟩ := h
  obtain ⟨xs, n, _, hx, _, hlen, hg⟩ := DataW.trod_struct Try.underlying24 hf
  have h0 := hg 0 _ rfl
  have h1 := hg 1 _ rfl
  have h2 := hg 2 _ rfl
  have h3 := hg 3 _ rfl
  have h4 := hg 4 _ rfl
  have h5 := hg 5 _ rfl
  obtain ⟨l0⟩ := cs
  match l0, hsz.trans (show Try.prog.cellsOf 24 = 6 by kernel_rfl) with
  | [c0, c1, c2, c3, c4, c5], _ =>
    match xs, hlen with
    | [y0, y1, y2, y3, y4, y5], _ =>
      have g0 : DataW.trod enc Try.prog W 0 (fun _ => true) true n 9 [c0] = some y0 := h0
      obtain ⟨x0, e0, _, w0⟩ := DataW.trod_string Try.underlying9 g0
      obtain rfl : c0 = .string x0 := by simpa using e0
      have g1 : DataW.trod enc Try.prog W 0 (fun _ => true) true n 3 [c1] = some y1 := h1
      obtain ⟨x1, e1, _, w1⟩ := DataW.trod_int Try.underlying3 g1
      obtain rfl : c1 = .int .i64 x1 := by simpa using e1
      have g2 : DataW.trod enc Try.prog W 0 (fun _ => true) true n 3 [c2] = some y2 := h2
      obtain ⟨x2, e2, _, w2⟩ := DataW.trod_int Try.underlying3 g2
      obtain rfl : c2 = .int .i64 x2 := by simpa using e2
      have g3 : DataW.trod enc Try.prog W 0 (fun _ => true) true n 22 [c3] = some y3 := h3
      obtain ⟨x3, e3, w3⟩ := trod_float64 Try.underlying22 g3
      obtain rfl : c3 = .float .f64 x3 := by simpa using e3
      have g4 : DataW.trod enc Try.prog W 0 (fun _ => true) true n 4 [c4] = some y4 := h4
      obtain ⟨x4, e4, _⟩ := DataW.trod_bool Try.underlying4 g4
      obtain rfl : c4 = .bool x4 := by simpa using e4
      have g5 : DataW.trod enc Try.prog W 0 (fun _ => true) true n 4 [c5] = some y5 := h5
      obtain ⟨x5, e5, _⟩ := DataW.trod_bool Try.underlying4 g5
      obtain rfl : c5 = .bool x5 := by simpa using e5
      exact ⟨x0, x1, x2, x3, x4, x5, rfl, w0, w1, w2, w3, hlt⟩
set_option maxRecDepth 100000 in
theorem open_verdict {H : Type} {enc : TypeId × Value → H} {v : Value} {d : DataW H} {p : List MemPlace} {W : World} {b0 : Nat} (hv : Value.okWide Try.prog W .any b0 38 v) (h : DataW.Trod enc Try.prog W 0 (fun _ => true) true 38 v d p) :
    ∃ (x0 : Int) (x1 : Int) (x2 : Bool) (x3 : Int) (x4 : Int) (x5 : Int), v = .agg #[.int .i64 x0, .int .i64 x1, .bool x2, .int .i64 x3, .int .i64 x4, .int .i64 x5] ∧ (Lit.int .i64 x0).wf = true ∧ (Lit.int .i64 x1).wf = true ∧ (Lit.int .i64 x3).wf = true ∧ (Lit.int .i64 x4).wf = true ∧ (Lit.int .i64 x5).wf = true ∧ ∀ x ∈ p, x.block < W.heap.size := by
  have hlt : ∀ x ∈ p, x.block < W.heap.size := by obtain ⟨m, hm⟩ := h; exact DataW.trod_lt m _ _ _ hm
  obtain ⟨cs, rfl, hsz⟩ := okWide_struct Try.underlying38 hv
  obtain ⟨fuel, hf⟩ := h
  obtain ⟨xs, n, _, hx, _, hlen, hg⟩ := DataW.trod_struct Try.underlying38 hf
  have h0 := hg 0 _ rfl
  have h1 := hg 1 _ rfl
  have h2 := hg 2 _ rfl
  have h3 := hg 3 _ rfl
  have h4 := hg 4 _ rfl
  have h5 := hg 5 _ rfl
  obtain ⟨l0⟩ := cs
  match l0, hsz.trans (show Try.prog.cellsOf 38 = 6 by kernel_rfl) with
  | [c0, c1, c2, c3, c4, c5], _ =>
    match xs, hlen with
    | [y0, y1, y2, y3, y4, y5], _ =>
      have g0 : DataW.trod enc Try.prog W 0 (fun _ => true) true n 3 [c0] = some y0 := h0
      obtain ⟨x0, e0, _, w0⟩ := DataW.trod_int Try.underlying3 g0
      obtain rfl : c0 = .int .i64 x0 := by simpa using e0
      have g1 : DataW.trod enc Try.prog W 0 (fun _ => true) true n 3 [c1] = some y1 := h1
      obtain ⟨x1, e1, _, w1⟩ := DataW.trod_int Try.underlying3 g1
      obtain rfl : c1 = .int .i64 x1 := by simpa using e1
      have g2 : DataW.trod enc Try.prog W 0 (fun _ => true) true n 4 [c2] = some y2 := h2
      obtain ⟨x2, e2, _⟩ := DataW.trod_bool Try.underlying4 g2
      obtain rfl : c2 = .bool x2 := by simpa using e2
      have g3 : DataW.trod enc Try.prog W 0 (fun _ => true) true n 3 [c3] = some y3 := h3
      obtain ⟨x3, e3, _, w3⟩ := DataW.trod_int Try.underlying3 g3
      obtain rfl : c3 = .int .i64 x3 := by simpa using e3
      have g4 : DataW.trod enc Try.prog W 0 (fun _ => true) true n 3 [c4] = some y4 := h4
      obtain ⟨x4, e4, _, w4⟩ := DataW.trod_int Try.underlying3 g4
      obtain rfl : c4 = .int .i64 x4 := by simpa using e4
      have g5 : DataW.trod enc Try.prog W 0 (fun _ => true) true n 3 [c5] = some y5 := h5
      obtain ⟨x5, e5, _, w5⟩ := DataW.trod_int Try.underlying3 g5
      obtain rfl : c5 = .int .i64 x5 := by simpa using e5
      exact ⟨x0, x1, x2, x3, x4, x5, rfl, w0, w1, w3, w4, w5, hlt⟩
set_option maxRecDepth 100000 in
theorem open_sl_status {H : Type} {enc : TypeId × Value → H} {v : Value} {d : DataW H} {p : List MemPlace} {W : World} {b0 : Nat} (hv0 : Value.okWide Try.prog W .any b0 43 v) (h : DataW.Trod enc Try.prog W 0 (fun _ => true) true 43 v d p) :
    ∃ (A : Option Addr) (c : Nat) (l : List S45), v = .slice A l.length c ∧ Kd.C k45 W A l.length l ∧ l.length ≤ c ∧ l.length ≤ maxLen ∧ ∀ x ∈ p, x.block < W.heap.size := by
  have hlt : ∀ x ∈ p, x.block < W.heap.size := by obtain ⟨m, hm⟩ := h; exact DataW.trod_lt m _ _ _ hm
  obtain ⟨a0, len0, cap0, rfl⟩ := okWide_slice Try.underlying43 hv0
  obtain ⟨fuel, h2⟩ := h
  rcases open_slice_fields Try.underlying43 Try.underlying45 (by kernel_rfl) (by kernel_rfl) h2 with ⟨hcs, _⟩ | ⟨a, len, cap, m, D, Pl, hcs, _, hl, hm, hmm, _, hi⟩
  · obtain ⟨rfl, rfl, rfl⟩ : a0 = none ∧ len0 = 0 ∧ cap0 = 0 := by simpa [Value.cells] using hcs
    exact ⟨none, 0, [], rfl, Kd.C_nil _ _, Nat.le_refl _, Nat.zero_le _, hlt⟩
  · obtain ⟨rfl, rfl, rfl⟩ : a0 = some a ∧ len0 = len ∧ cap0 = cap := by simpa [Value.cells] using hcs
    simp only [if_true] at hmm
    subst hmm
    have hex : ∀ i : Nat, ∃ x : S45, i < m → W.cell? (a.add (i * 5 + 0)) = some (.int .i64 x.f0) ∧ W.cell? (a.add (i * 5 + 1)) = some (.int .i64 x.f1) ∧ W.cell? (a.add (i * 5 + 2)) = some (.int .i64 x.f2) ∧ W.cell? (a.add (i * 5 + 3)) = some (.int .i64 x.f3) ∧ W.cell? (a.add (i * 5 + 4)) = some (.int .i64 x.f4) := by
      intro i
      by_cases him : i < m
      · obtain ⟨ys, n2, _, _, _, hfs⟩ := hi i him
        obtain ⟨v0, z0, hc0, _, ht0⟩ := hfs 0 _ rfl
        obtain ⟨s0, e0, _, _⟩ := DataW.trod_int Try.underlying3 ht0
        obtain rfl : v0 = .int .i64 s0 := by simpa using e0
        obtain ⟨v1, z1, hc1, _, ht1⟩ := hfs 1 _ rfl
        obtain ⟨s1, e1, _, _⟩ := DataW.trod_int Try.underlying3 ht1
        obtain rfl : v1 = .int .i64 s1 := by simpa using e1
        obtain ⟨v2, z2, hc2, _, ht2⟩ := hfs 2 _ rfl
        obtain ⟨s2, e2, _, _⟩ := DataW.trod_int Try.underlying3 ht2
        obtain rfl : v2 = .int .i64 s2 := by simpa using e2
        obtain ⟨v3, z3, hc3, _, ht3⟩ := hfs 3 _ rfl
        obtain ⟨s3, e3, _, _⟩ := DataW.trod_int Try.underlying3 ht3
        obtain rfl : v3 = .int .i64 s3 := by simpa using e3
        obtain ⟨v4, z4, hc4, _, ht4⟩ := hfs 4 _ rfl
        obtain ⟨s4, e4, _, _⟩ := DataW.trod_int Try.underlying3 ht4
        obtain rfl : v4 = .int .i64 s4 := by simpa using e4
        exact ⟨⟨s0, s1, s2, s3, s4⟩, fun _ => ⟨hc0, hc1, hc2, hc3, hc4⟩⟩
      · exact ⟨z45, fun h => absurd h him⟩
    obtain ⟨g, hgx⟩ := Classical.axiomOfChoice hex
    refine ⟨some a, m, (List.range len0).map g, by simp, ?_, by simpa using hl, by simp; omega, hlt⟩
    refine ⟨rfl, by simp; unfold maxLen at hm; omega, fun _ => ⟨a, rfl, fun j p hp => ?_⟩⟩
    have hj : j < len0 := by have := (List.getElem?_eq_some_iff.1 hp).1; simpa using this
    obtain rfl : g j = p := by simpa [hj] using hp
    obtain ⟨c0, c1, c2, c3, c4⟩ := hgx j (by omega)
    refine ⟨[.int .i64 (g j).f0, .int .i64 (g j).f1, .int .i64 (g j).f2, .int .i64 (g j).f3, .int .i64 (g j).f4], rfl, k45_mk W (g j), fun i u hu => ?_⟩
    match i, hu with
    | 0, hu => simp at hu; subst hu; exact c0
    | 1, hu => simp at hu; subst hu; exact c1
    | 2, hu => simp at hu; subst hu; exact c2
    | 3, hu => simp at hu; subst hu; exact c3
    | 4, hu => simp at hu; subst hu; exact c4
    | i + 5, hu => simp at hu
theorem own : ownKnob Try.prog.godebug = none := by kernel_rfl
theorem laidOut : laidOutB Try.prog = true := by kernel_rfl
set_option maxRecDepth 100000 in
theorem lifted (os : Os) (started : os.Started) (H : Type) (enc : TypeId × Value → H) :
    ReturnsInHanded {} Try.checked os 9 .any (Rows.judgeStatusSpec.pre6 enc Try.prog Try.f9 Rows.judgeStatusRow.domain false) (Rows.judgeStatusSpec.post enc Try.prog Try.f9 false true false false) := by
  refine returnsInHanded_of_change_sized (C := Try.checked) own started (by kernel_rfl) Try.func9
    (ChangeSpec.witness6 (enc := enc) (C := Try.checked) false ⟨#[], #[.agg #[.string ByteArray.empty, .int .i64 0, .int .i64 0, .float .f64 0, .bool false, .bool false], .int .u64 0, .agg #[.int .i64 0, .int .i64 0, .bool false, .int .i64 0, .int .i64 0, .int .i64 0], .int .i64 0, .slice none 0 0], []⟩ 8 (by kernel_rfl) (by kernel_rfl) (by kernel_rfl) (by kernel_rfl)) ?_
  intro W base args ds gs before hval0 hW hcnd hsz0 _
  have hsz : (DataW.weightsEach Try.prog (Try.f9.params.toList ++ Rows.judgeStatusSpec.plain.varTypes Try.prog) (ds ++ gs)).all (· ≤ reachBytes) = true := hsz0
  have hval : ∀ (j : Nat) t v, Try.f9.params[j]? = some t → args[j]? = some v → Value.okWide Try.prog W .any base t v := hval0
  have hW' := hW
  obtain ⟨p, q, hA0, hV, rfl, hfz, hnd⟩ := hW
  have hA : DataW.TrodAll enc Try.prog W 0 (fun _ => true) true Try.f9.params.toList args.toList ds p := hA0
  rw [Try.params9] at hA hval hsz
  obtain ⟨v0, vs0, d0, ds0, p0, q0, hargs, rfl, rfl, h0, r0⟩ := trodAll_cons hA
  obtain ⟨v1, vs1, d1, ds1, p1, q1, rfl, rfl, rfl, h1, r1⟩ := trodAll_cons r0
  obtain ⟨v2, vs2, d2, ds2, p2, q2, rfl, rfl, rfl, h2, r2⟩ := trodAll_cons r1
  obtain ⟨v3, vs3, d3, ds3, p3, q3, rfl, rfl, rfl, h3, r3⟩ := trodAll_cons r2
  obtain ⟨v4, vs4, d4, ds4, p4, q4, rfl, rfl, rfl, h4, r4⟩ := trodAll_cons r3
  obtain ⟨rfl, rfl, rfl⟩ := trodAll_nil r4
  obtain rfl : args = #[v0, v1, v2, v3, v4] := by cases args; simp_all
  obtain ⟨rfl, rfl⟩ := trodVars_none hV
  obtain ⟨a0_0, a0_1, a0_2, a0_3, a0_4, a0_5, rfl, w0_0, w0_1, w0_2, w0_3, lt0⟩ := open_rule (hval 0 24 v0 rfl rfl) h0
  obtain ⟨a1, rfl, rfl, rfl, w1⟩ := open_int Try.underlying25 (hval 1 25 v1 rfl rfl) h1
  obtain ⟨a2_0, a2_1, a2_2, a2_3, a2_4, a2_5, rfl, w2_0, w2_1, w2_3, w2_4, w2_5, lt2⟩ := open_verdict (hval 2 38 v2 rfl rfl) h2
  obtain ⟨a3, rfl, rfl, rfl, w3⟩ := open_int Try.underlying3 (hval 3 3 v3 rfl rfl) h3
  obtain ⟨A4, c4, l4, rfl, kd4, le4, ml4, lt4⟩ := open_sl_status (hval 4 43 v4 rfl rfl) h4
  clear hA0 hval0 hsz0 hsz
  obtain ⟨k, hk⟩ := Pure.JudgeStatus a0_0 a0_1 a0_2 a0_3 a0_4 a0_5 a1 a2_0 a2_1 a2_2 a2_3 a2_4 a2_5 a3 l4 w0_0 w0_1 w0_2 w0_3 w1 w2_0 w2_1 w2_3 w2_4 w2_5 w3
  refine (PJudgeStatus.turncocklaw26_JudgeStatus.calls k a0_0 a0_1 a0_2 a0_3 a0_4 a0_5 a1 a2_0 a2_1 a2_2 a2_3 a2_4 a2_5 a3 A4 c4 l4 true W kd4 le4 hk rfl).mono fun e W' ⟨he, bel⟩ => ?_
  subst he
  exact ⟨_, rfl, _, _, _, [], _, [], hW', trodAll_mk1 (shut_bool Try.underlying4 _), (trodAll_cons_mk (Below.trod laidOut (by kernel_rfl) (of_decide_eq_true (by kernel_rfl)) h0 bel lt0) (trodAll_cons_mk (shut_int Try.underlying25 w1) (trodAll_cons_mk (Below.trod laidOut (by kernel_rfl) (of_decide_eq_true (by kernel_rfl)) h2 bel lt2) (trodAll_cons_mk (shut_int Try.underlying3 w3) (trodAll_cons_mk (Below.trod laidOut (by kernel_rfl) (of_decide_eq_true (by kernel_rfl)) h4 bel lt4) trodAll_mk0))))), rfl, bel.frame _, fun h => by cases h⟩
theorem over : Rows.judgeStatusRow.holds Try.pinned (OpenSpec.ofChange Rows.judgeStatusSpec) :=
  OpenClaim.holds_of_wide 9 Try.f9 rfl rfl rfl rfl rfl rfl rfl ⟨rfl, rfl, rfl, rfl, rfl⟩ rfl rfl rfl rfl rfl (by kernel_rfl) Try.func9 (by kernel_rfl)
    (of_decide_eq_true (by kernel_rfl)) (by unfold Func.isWrapper; first | (rw [if_pos (by decide +kernel)]; kernel_rfl) | (rw [if_neg (by decide +kernel)]; exact ⟨rfl, rfl⟩))
    (fun os started H enc _ => lifted os started H enc)
theorem proved : Rows.JudgeStatusSaid := over
#print axioms proved
end Go.Proofs.Ytofebccpghkmgaa.judgeStatus
namespace Go.Proofs.Ytofebccpghkmgaa
/-- The row, under a short name, for the claim. -/
theorem judgeStatus_holds : Rows.JudgeStatusSaid := judgeStatus.proved
end Go.Proofs.Ytofebccpghkmgaa
