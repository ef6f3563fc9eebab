/- What the law TrieFits uses, thinned: printed by shake2.py. -/
import Derived.Test.YtipbigdpannlcaaRows
import Derived.Test.YtipbigdpannlcaaTTrieFitsOTFitR
import Derived.Deep.Slices
import Derived.Deep.Strs
import Derived.Deep.Fields
import Derived.ChangeSame
import Derived.Lib.SmallJoins
import Derived.WalkKit
import Derived.ProofKit
import Derived.OpenShut
import Derived.ShutString
import Derived.ChangeOld
import Derived.Below
import Derived.SizedLaws
namespace Go.Proofs.Ytipbigdpannlcaa.trieFits
open Go.ChangeShapes Go.WideShapes Go.ChangeAt Go.RowKit Go.Deep
open Go.ChangeMaps (open_string shut_string)
open Go.Proofs.YtipbigdpannlcaaW.PrintWords Go.Proofs.YtipbigdpannlcaaW.PrintLast Go.Proofs.Ytipbigdpannlcaa.Tr Go.Proofs.Ytipbigdpannlcaa.PTrieFits Go.Proofs.Ytipbigdpannlcaa.Pure
set_option linter.unusedVariables false
set_option maxRecDepth 100000 in
theorem open_sl_int {H : Type} {enc : TypeId × Value → H} {v : Value} {d : DataW H} {p : List MemPlace} {W : World} {b0 : Nat} (hv0 : Value.okWide Try.prog W .any b0 22 v) (h : DataW.Trod enc Try.prog W 0 (fun _ => true) true 22 v d p) :
    ∃ (A : Option Addr) (c : Nat) (l : List Int), v = .slice A l.length c ∧ Kd.C (Kd.int .i64) W A l.length l ∧ l.length ≤ c ∧ l.length ≤ maxLen ∧ (∀ x ∈ l, (Lit.int .i64 x).wf = true) ∧ ∀ x ∈ p, x.block < W.heap.size := by
  have hlt : ∀ x ∈ p, x.block < W.heap.size := by obtain ⟨m, hm⟩ := h; exact DataW.trod_lt m _ _ _ hm
  obtain ⟨a0, len0, cap0, rfl⟩ := okWide_slice Try.underlying22 hv0
  obtain ⟨fuel, h2⟩ := h
  rcases open_slice1 Try.underlying22 (by kernel_rfl) h2 with ⟨hcs, _⟩ | ⟨a, len, cap, m, n2, V, D, Pl, hcs, _, hl, hm, hmm, _, hi⟩
  · obtain ⟨rfl, rfl, rfl⟩ : a0 = none ∧ len0 = 0 ∧ cap0 = 0 := by simpa [Value.cells] using hcs
    exact ⟨none, 0, [], rfl, Kd.C_nil _ _, Nat.le_refl _, Nat.zero_le _, fun x hx => by simp at hx, hlt⟩
  · obtain ⟨rfl, rfl, rfl⟩ : a0 = some a ∧ len0 = len ∧ cap0 = cap := by simpa [Value.cells] using hcs
    simp only [if_true] at hmm
    subst hmm
    have hex : ∀ i : Nat, ∃ x : Int, i < m → W.cell? (a.add i) = some (.int .i64 x) ∧ (Lit.int .i64 x).wf = true := by
      intro i
      by_cases him : i < m
      · obtain ⟨hc, ht⟩ := hi i him
        obtain ⟨s0, e0, _, rg0⟩ := DataW.trod_int Try.underlying3 ht
        have e1 : V i = .int .i64 s0 := by simpa using e0
        exact ⟨s0, fun _ => ⟨by rw [hc, e1], rg0⟩⟩
      · exact ⟨0, fun h => absurd h him⟩
    obtain ⟨Sx, hgx⟩ := Classical.axiomOfChoice hex
    refine ⟨some a, m, (List.range len0).map Sx, by simp, ?_, by simpa using hl, by simp; omega, ?_, hlt⟩
    rotate_left
    · intro x hx
      obtain ⟨j, hj, rfl⟩ := List.mem_map.1 hx
      have hj : j < len0 := by simpa using hj
      exact (hgx j (by omega)).2
    refine ⟨rfl, by simp; unfold maxLen at hm; omega, fun _ => ⟨a, rfl, fun j p hp => ?_⟩⟩
    have hj : j < len0 := by have := (List.getElem?_eq_some_iff.1 hp).1; simpa using this
    obtain rfl : Sx j = p := by simpa [hj] using hp
    refine ⟨[.int .i64 (Sx j)], rfl, rfl, fun i u hu => ?_⟩
    match i, hu with
    | 0, hu =>
      simp at hu; subst hu
      have e1 : j * (Kd.int .i64).sz + 0 = j := by show j * 1 + 0 = j; omega
      rw [e1]
      exact (hgx j (by omega)).1
    | i + 1, hu => simp at hu
theorem own : ownKnob Try.prog.godebug = none := by kernel_rfl
theorem laidOut : laidOutB Try.prog = true := by kernel_rfl
set_option maxRecDepth 100000 in
theorem lifted (os : Os) (started : os.Started) (H : Type) (enc : TypeId × Value → H) :
    ReturnsInHanded {} Try.checked os 3 .any (Rows.trieFitsSpec.pre6 enc Try.prog Try.f3 Rows.trieFitsRow.domain false) (Rows.trieFitsSpec.post enc Try.prog Try.f3 false true false false) := by
  refine returnsInHanded_of_change_sized (C := Try.checked) own started (by kernel_rfl) Try.func3
    (ChangeSpec.witness6 (enc := enc) (C := Try.checked) false ⟨#[], #[.slice none 0 0, .slice none 0 0], []⟩ 8 (by kernel_rfl) (by kernel_rfl) (by kernel_rfl) (by kernel_rfl)) ?_
  intro W base args ds gs before hval0 hW hcnd hsz0 _
  have hsz : (DataW.weightsEach Try.prog (Try.f3.params.toList ++ Rows.trieFitsSpec.plain.varTypes Try.prog) (ds ++ gs)).all (· ≤ reachBytes) = true := hsz0
  have hval : ∀ (j : Nat) t v, Try.f3.params[j]? = some t → args[j]? = some v → Value.okWide Try.prog W .any base t v := hval0
  have hW' := hW
  obtain ⟨p, q, hA0, hV, rfl, hfz, hnd⟩ := hW
  have hA : DataW.TrodAll enc Try.prog W 0 (fun _ => true) true Try.f3.params.toList args.toList ds p := hA0
  rw [Try.params3] at hA hval hsz
  obtain ⟨v0, vs0, d0, ds0, p0, q0, hargs, rfl, rfl, h0, r0⟩ := trodAll_cons hA
  obtain ⟨v1, vs1, d1, ds1, p1, q1, rfl, rfl, rfl, h1, r1⟩ := trodAll_cons r0
  obtain ⟨rfl, rfl, rfl⟩ := trodAll_nil r1
  obtain rfl : args = #[v0, v1] := by cases args; simp_all
  obtain ⟨rfl, rfl⟩ := trodVars_none hV
  obtain ⟨A0, c0, l0, rfl, kd0, le0, ml0, rgs0, lt0⟩ := open_sl_int (hval 0 22 v0 rfl rfl) h0
  obtain ⟨A1, c1, l1, rfl, kd1, le1, ml1, rgs1, lt1⟩ := open_sl_int (hval 1 22 v1 rfl rfl) h1
  clear hA0 hval0 hsz0 hsz
  refine (fits_calls A0 c0 l0 A1 c1 l1 W kd0 le0 kd1 le1).mono fun e W' ⟨he, bel⟩ => ?_
  subst he
  exact ⟨_, rfl, _, _, _, [], _, [], hW', trodAll_mk1 (shut_bool Try.underlying4 _), (trodAll_cons_mk (Below.trod laidOut (by kernel_rfl) (of_decide_eq_true (by kernel_rfl)) h0 bel lt0) (trodAll_cons_mk (Below.trod laidOut (by kernel_rfl) (of_decide_eq_true (by kernel_rfl)) h1 bel lt1) trodAll_mk0)), rfl, bel.frame _, fun h => by cases h⟩
theorem over : Rows.trieFitsRow.holds Try.pinned (OpenSpec.ofChange Rows.trieFitsSpec) :=
  OpenClaim.holds_of_wide 3 Try.f3 rfl rfl rfl rfl rfl rfl rfl ⟨rfl, rfl, rfl, rfl, rfl⟩ rfl rfl rfl rfl rfl (by kernel_rfl) Try.func3 (by kernel_rfl)
    (of_decide_eq_true (by kernel_rfl)) (by unfold Func.isWrapper; first | (rw [if_pos (by decide +kernel)]; kernel_rfl) | (rw [if_neg (by decide +kernel)]; exact ⟨rfl, rfl⟩))
    (fun os started H enc _ => lifted os started H enc)
theorem proved : Rows.TrieFitsSaid := over
end Go.Proofs.Ytipbigdpannlcaa.trieFits
namespace Go.Proofs.Ytipbigdpannlcaa
theorem trieFits_holds : Rows.TrieFitsSaid := trieFits.proved
end Go.Proofs.Ytipbigdpannlcaa
