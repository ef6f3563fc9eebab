/- MarksActs's row, from its contract. -/
import Derived.Test.YtehlhaddbfjllaaRows
import Derived.Test.YtehlhaddbfjllaaOMP
import Derived.Deep.Slices
import Derived.Deep.Strs
import Derived.Deep.Fields
import Derived.ChangeSame
import Derived.Lib.SmallJoins
import Derived.WalkKit
import Derived.ProofKit
import Derived.OpenShut
import Derived.ShutString
import Derived.ChangeOld
import Derived.Below
import Derived.SizedLaws
namespace Go.Proofs.Ytehlhaddbfjllaa.marksActs
open Go.ChangeShapes Go.WideShapes Go.ChangeAt Go.RowKit Go.Deep
open Go.ChangeMaps (open_string shut_string)
open Go.Proofs.YtehlhaddbfjllaaW.PrintWords Go.Proofs.YtehlhaddbfjllaaW.PrintLast Go.Proofs.Ytehlhaddbfjllaa.Mp Go.Proofs.Ytehlhaddbfjllaa.PMarksActs
set_option linter.unusedVariables false
section
open Go.ChangeShapes Go.WideShapes Go.Deep Go.RowKit Go.Joins
variable {H : Type} {enc : TypeId × Value → H} {P : Program} {w : World} {base : Nat} {spare : Nat → Bool} {held : Bool}
theorem open_slice_fields {t e : TypeId} {fs : Array Field} {fuel : Nat} {cs : List Value} {x : DataW H × List MemPlace} (ht : P.underlying t = some (.slice e)) (he : P.underlying e = some (.struct fs))
    (hone : oneCellFields P fs = true) (hC : P.cellsOf e = fs.size) (h : DataW.trod enc P w base spare held fuel t cs = some x) :
    (cs = [.slice none 0 0] ∧ x = (.nil, [])) ∨
    ∃ (a : Addr) (len cap m : Nat) (D : Nat → DataW H) (Pl : Nat → List MemPlace), cs = [.slice (some a) len cap] ∧ base ≤ a.block ∧ len ≤ cap ∧ cap ≤ maxLen ∧ m = (if spare a.block then cap else len) ∧
      x = (.slice ((List.range len).map D) ((List.range (m - len)).map fun j => D (len + j)), MemPlace.row a (m * fs.size) ++ (List.range m).flatMap Pl) ∧
      ∀ i, i < m → ∃ (ys : List (DataW H × List MemPlace)) (n : Nat), D i = .agg (ys.map (·.1)) ∧ Pl i = ys.flatMap (·.2) ∧ ys.length = fs.size ∧
        ∀ (j : Nat) (f : Field), fs[j]? = some f → ∃ (v : Value) (y : DataW H × List MemPlace), w.cell? (a.add (i * fs.size + j)) = some v ∧ ys[j]? = some y ∧ DataW.trod enc P w base spare held n f.type [v] = some y := by
  rcases open_slice ht h with h0 | ⟨a, len, cap, m, n, D, Pl, hcs, hb, hl, hm, hmm, hx, hi⟩
  · exact .inl h0
  · refine .inr ⟨a, len, cap, m, D, Pl, hcs, hb, hl, hm, hmm, by rw [hC] at hx; exact hx, fun i him => ?_⟩
    obtain ⟨cs', hc, ht'⟩ := hi i him
    rw [hC] at hc
    obtain ⟨ys, n', hn', hy, hlen, hyl, hf⟩ := DataW.trod_struct he ht'
    obtain ⟨_, hcl, hat⟩ := World.cells?_some hc
    simp only [Prod.mk.injEq] at hy
    refine ⟨ys, n', hy.1, hy.2, hyl, fun j f hj => ?_⟩
    obtain ⟨ho, hk⟩ := hone_of hone j f hj
    have hjl : j < fs.size := (Array.getElem?_eq_some_iff.1 hj).1
    have hcell := hat j hjl
    have hv : cs'[j]? = some (cs'[j]'(by omega)) := List.getElem?_eq_getElem (by omega)
    have h1 := hf j f hj
    rw [ho, hk] at h1
    have hone' : (cs'.drop j).take 1 = [cs'[j]'(by omega)] := by
      rw [List.drop_eq_getElem_cons (by omega)]
      rfl
    rw [hone'] at h1
    have hys : ys[j]? = some (ys[j]'(by omega)) := List.getElem?_eq_getElem (by omega)
    refine ⟨_, _, ?_, hys, h1.trans hys⟩
    rw [← Go.Deep.add_add, hcell, hv]
end
set_option maxRecDepth 100000 in
theorem open_sl_act {H : Type} {enc : TypeId × Value → H} {v : Value} {d : DataW H} {p : List MemPlace} {W : World} {b0 : Nat} (hv0 : Value.okWide Try.prog W .any b0 22 v) (h : DataW.Trod enc Try.prog W 0 (fun _ => true) true 22 v d p) :
    ∃ (A : Option Addr) (c : Nat) (l : List S30), v = .slice A l.length c ∧ Kd.C k30 W A l.length l ∧ l.length ≤ c ∧ l.length ≤ maxLen ∧ (∀ x ∈ l, (Lit.int .i64 x.f0).wf = true ∧ x.f1.size ≤ maxLen ∧ (Lit.int .i64 x.f2).wf = true ∧ (Lit.int .i64 x.f3).wf = true) ∧ ∀ x ∈ p, x.block < W.heap.size := by
  have hlt : ∀ x ∈ p, x.block < W.heap.size := by obtain ⟨m, hm⟩ := h; exact DataW.trod_lt m _ _ _ hm
  obtain ⟨a0, len0, cap0, rfl⟩ := okWide_slice Try.underlying22 hv0
  obtain ⟨fuel, h2⟩ := h
  rcases open_slice_fields Try.underlying22 Try.underlying30 (by kernel_rfl) (by kernel_rfl) h2 with ⟨hcs, _⟩ | ⟨a, len, cap, m, D, Pl, hcs, _, hl, hm, hmm, _, hi⟩
  · obtain ⟨rfl, rfl, rfl⟩ : a0 = none ∧ len0 = 0 ∧ cap0 = 0 := by simpa [Value.cells] using hcs
    exact ⟨none, 0, [], rfl, Kd.C_nil _ _, Nat.le_refl _, Nat.zero_le _, fun x hx => by simp at hx, hlt⟩
  · obtain ⟨rfl, rfl, rfl⟩ : a0 = some a ∧ len0 = len ∧ cap0 = cap := by simpa [Value.cells] using hcs
    simp only [if_true] at hmm
    subst hmm
    have hex : ∀ i : Nat, ∃ x : S30, i < m → W.cell? (a.add (i * 4 + 0)) = some (.int .i64 x.f0) ∧ W.cell? (a.add (i * 4 + 1)) = some (.string x.f1) ∧ W.cell? (a.add (i * 4 + 2)) = some (.int .i64 x.f2) ∧ W.cell? (a.add (i * 4 + 3)) = some (.int .i64 x.f3) ∧ (Lit.int .i64 x.f0).wf = true ∧ x.f1.size ≤ maxLen ∧ (Lit.int .i64 x.f2).wf = true ∧ (Lit.int .i64 x.f3).wf = true := by
      intro i
      by_cases him : i < m
      · obtain ⟨ys, n2, _, _, _, hfs⟩ := hi i him
        obtain ⟨v0, z0_, hc0, _, ht0⟩ := hfs 0 _ rfl
        obtain ⟨s0, e0, _, rg0⟩ := DataW.trod_int Try.underlying3 ht0
        obtain rfl : v0 = .int .i64 s0 := by simpa using e0
        obtain ⟨v1, z1_, hc1, _, ht1⟩ := hfs 1 _ rfl
        obtain ⟨s1, e1, _, rg1⟩ := DataW.trod_string Try.underlying9 ht1
        obtain rfl : v1 = .string s1 := by simpa using e1
        obtain ⟨v2, z2_, hc2, _, ht2⟩ := hfs 2 _ rfl
        obtain ⟨s2, e2, _, rg2⟩ := DataW.trod_int Try.underlying3 ht2
        obtain rfl : v2 = .int .i64 s2 := by simpa using e2
        obtain ⟨v3, z3_, hc3, _, ht3⟩ := hfs 3 _ rfl
        obtain ⟨s3, e3, _, rg3⟩ := DataW.trod_int Try.underlying3 ht3
        obtain rfl : v3 = .int .i64 s3 := by simpa using e3
        exact ⟨⟨s0, s1, s2, s3⟩, fun _ => ⟨hc0, hc1, hc2, hc3, rg0, rg1, rg2, rg3⟩⟩
      · exact ⟨z30, fun h => absurd h him⟩
    obtain ⟨g, hgx⟩ := Classical.axiomOfChoice hex
    refine ⟨some a, m, (List.range len0).map g, by simp, ?_, by simpa using hl, by simp; omega, ?_, hlt⟩
    rotate_left
    · intro x hx
      obtain ⟨j, hj, rfl⟩ := List.mem_map.1 hx
      have hj : j < len0 := by simpa using hj
      obtain ⟨_, _, _, _, r0, r1, r2, r3⟩ := hgx j (by omega)
      exact ⟨r0, r1, r2, r3⟩
    refine ⟨rfl, by simp; unfold maxLen at hm; omega, fun _ => ⟨a, rfl, fun j p hp => ?_⟩⟩
    have hj : j < len0 := by have := (List.getElem?_eq_some_iff.1 hp).1; simpa using this
    obtain rfl : g j = p := by simpa [hj] using hp
    obtain ⟨c0, c1, c2, c3, _, _, _, _⟩ := hgx j (by omega)
    refine ⟨[.int .i64 (g j).f0, .string (g j).f1, .int .i64 (g j).f2, .int .i64 (g j).f3], rfl, k30_mk W (g j), fun i u hu => ?_⟩
    match i, hu with
    | 0, hu => simp at hu; subst hu; exact c0
    | 1, hu => simp at hu; subst hu; exact c1
    | 2, hu => simp at hu; subst hu; exact c2
    | 3, hu => simp at hu; subst hu; exact c3
    | i + 4, hu => simp at hu
theorem own : ownKnob Try.prog.godebug = none := by kernel_rfl
theorem laidOut : laidOutB Try.prog = true := by kernel_rfl
set_option maxRecDepth 100000 in
theorem lifted (os : Os) (started : os.Started) (H : Type) (enc : TypeId × Value → H) :
    ReturnsInHanded {} Try.checked os 3 .any (Rows.marksActsSpec.pre6 enc Try.prog Try.f3 Rows.marksActsRow.domain false) (Rows.marksActsSpec.post enc Try.prog Try.f3 false true false false) := by
  refine returnsInHanded_of_change_sized (C := Try.checked) own started (by kernel_rfl) Try.func3
    (ChangeSpec.witness6 (enc := enc) (C := Try.checked) false ⟨#[], #[.int .i64 0, .slice none 0 0], []⟩ 8 (by kernel_rfl) (by kernel_rfl) (by kernel_rfl) (by kernel_rfl)) ?_
  intro W base args ds gs before hval0 hW hcnd hsz0 _
  have hsz : (DataW.weightsEach Try.prog (Try.f3.params.toList ++ Rows.marksActsSpec.plain.varTypes Try.prog) (ds ++ gs)).all (· ≤ reachBytes) = true := hsz0
  have hval : ∀ (j : Nat) t v, Try.f3.params[j]? = some t → args[j]? = some v → Value.okWide Try.prog W .any base t v := hval0
  have hW' := hW
  obtain ⟨p, q, hA0, hV, rfl, hfz, hnd⟩ := hW
  have hA : DataW.TrodAll enc Try.prog W 0 (fun _ => true) true Try.f3.params.toList args.toList ds p := hA0
  rw [Try.params3] at hA hval hsz
  obtain ⟨v0, vs0, d0, ds0, p0, q0, hargs, rfl, rfl, h0, r0⟩ := trodAll_cons hA
  obtain ⟨v1, vs1, d1, ds1, p1, q1, rfl, rfl, rfl, h1, r1⟩ := trodAll_cons r0
  obtain ⟨rfl, rfl, rfl⟩ := trodAll_nil r1
  obtain rfl : args = #[v0, v1] := by cases args; simp_all
  obtain ⟨rfl, rfl⟩ := trodVars_none hV
  obtain ⟨a0, rfl, rfl, rfl, w0⟩ := open_int Try.underlying3 (hval 0 3 v0 rfl rfl) h0
  obtain ⟨A1, c1, l1, rfl, kd1, le1, ml1, rgs1, lt1⟩ := open_sl_act (hval 1 22 v1 rfl rfl) h1
  clear hA0 hval0 hsz0 hsz
  refine (Go.Proofs.Ytehlhaddbfjllaa.Mp.marksActs_calls a0 A1 c1 l1 W kd1 le1 ml1).mono fun e W' ⟨he, bel⟩ => ?_
  subst he
  exact ⟨_, rfl, _, _, _, [], _, [], hW', trodAll_mk1 (shut_bool Try.underlying4 _), (trodAll_cons_mk (shut_int Try.underlying3 w0) (trodAll_cons_mk (Below.trod laidOut (by kernel_rfl) (of_decide_eq_true (by kernel_rfl)) h1 bel lt1) trodAll_mk0)), rfl, bel.frame _, fun h => by cases h⟩
theorem over : Rows.marksActsRow.holds Try.pinned (OpenSpec.ofChange Rows.marksActsSpec) :=
  OpenClaim.holds_of_wide 3 Try.f3 rfl rfl rfl rfl rfl rfl rfl ⟨rfl, rfl, rfl, rfl, rfl⟩ rfl rfl rfl rfl rfl (by kernel_rfl) Try.func3 (by kernel_rfl)
    (of_decide_eq_true (by kernel_rfl)) (by unfold Func.isWrapper; first | (rw [if_pos (by decide +kernel)]; kernel_rfl) | (rw [if_neg (by decide +kernel)]; exact ⟨rfl, rfl⟩))
    (fun os started H enc _ => lifted os started H enc)
theorem proved : Rows.MarksActsSaid := over
#print axioms proved
end Go.Proofs.Ytehlhaddbfjllaa.marksActs
namespace Go.Proofs.Ytehlhaddbfjllaa
/-- The row, under a short name, for the claim. -/
theorem marksActs_holds : Rows.MarksActsSaid := marksActs.proved
end Go.Proofs.Ytehlhaddbfjllaa
