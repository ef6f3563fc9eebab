/- StatActs's row, from its contract. -/
import Derived.Test.YtehlhaddbfjllaaRows
import Derived.Test.YtehlhaddbfjllaaOSU
import Derived.Deep.Slices
import Derived.Deep.Strs
import Derived.Deep.Fields
import Derived.ChangeSame
import Derived.Lib.SmallJoins
import Derived.WalkKit
import Derived.ProofKit
import Derived.OpenShut
import Derived.ShutString
import Derived.ChangeOld
import Derived.Below
import Derived.SizedLaws
namespace Go.Proofs.Ytehlhaddbfjllaa.statActs
open Go.ChangeShapes Go.WideShapes Go.ChangeAt Go.RowKit Go.Deep
open Go.ChangeMaps (open_string shut_string)
open Go.Proofs.YtehlhaddbfjllaaW.PrintWords Go.Proofs.YtehlhaddbfjllaaW.PrintLast Go.Proofs.Ytehlhaddbfjllaa.Mp Go.Proofs.Ytehlhaddbfjllaa.PStatActs
set_option linter.unusedVariables false
set_option maxRecDepth 100000 in
theorem open_sl_act {H : Type} {enc : TypeId × Value → H} {v : Value} {d : DataW H} {p : List MemPlace} {W : World} {b0 : Nat} (hv0 : Value.okWide Try.prog W .any b0 41 v) (h : DataW.Trod enc Try.prog W 0 (fun _ => true) true 41 v d p) :
    ∃ (A : Option Addr) (c : Nat) (l : List S53), v = .slice A l.length c ∧ Kd.C k53 W A l.length l ∧ l.length ≤ c ∧ l.length ≤ maxLen ∧ (∀ x ∈ l, True) ∧ ∀ x ∈ p, x.block < W.heap.size := by
  have hlt : ∀ x ∈ p, x.block < W.heap.size := by obtain ⟨m, hm⟩ := h; exact DataW.trod_lt m _ _ _ hm
  obtain ⟨a0, len0, cap0, rfl⟩ := okWide_slice Try.underlying41 hv0
  obtain ⟨fuel, h2⟩ := h
  rcases open_slice Try.underlying41 h2 with ⟨hcs, _⟩ | ⟨a, len, cap, m, n, D, Pl, hcs, _, hl, hm, hmm, _, hi⟩
  · obtain ⟨rfl, rfl, rfl⟩ : a0 = none ∧ len0 = 0 ∧ cap0 = 0 := by simpa [Value.cells] using hcs
    exact ⟨none, 0, [], rfl, Kd.C_nil _ _, Nat.le_refl _, Nat.zero_le _, fun x hx => by simp at hx, hlt⟩
  · obtain ⟨rfl, rfl, rfl⟩ : a0 = some a ∧ len0 = len ∧ cap0 = cap := by simpa [Value.cells] using hcs
    simp only [if_true] at hmm
    subst hmm
    have hC : Try.prog.cellsOf 53 = 10 := by kernel_rfl
    have hC2 : Try.prog.cellsOf 51 = 6 := by kernel_rfl
    have hI : Try.prog.cellsOf 3 = 1 := by kernel_rfl
    have hS : Try.prog.cellsOf 9 = 1 := by kernel_rfl
    have hB : Try.prog.cellsOf 4 = 1 := by kernel_rfl
    have hex : ∀ i : Nat, ∃ x : S53, i < m → W.cell? (a.add (i * 10 + 0)) = some (.int .i64 x.f0) ∧ W.cell? (a.add (i * 10 + 1)) = some (.string x.f1) ∧ W.cell? (a.add (i * 10 + 2)) = some (.int .i64 x.f2) ∧ W.cell? (a.add (i * 10 + 3)) = some (.int .i64 x.f3.f0) ∧ W.cell? (a.add (i * 10 + 4)) = some (.int .i64 x.f3.f1) ∧ W.cell? (a.add (i * 10 + 5)) = some (.bool x.f3.f2) ∧ W.cell? (a.add (i * 10 + 6)) = some (.int .i64 x.f3.f3) ∧ W.cell? (a.add (i * 10 + 7)) = some (.int .i64 x.f3.f4) ∧ W.cell? (a.add (i * 10 + 8)) = some (.int .i64 x.f3.f5) ∧ W.cell? (a.add (i * 10 + 9)) = some (.bool x.f4) := by
      intro i
      by_cases him : i < m
      · obtain ⟨cs', hc, ht'⟩ := hi i him
        rw [hC] at hc
        obtain ⟨ys, n', hn', hy, hlen, hyl, hf⟩ := DataW.trod_struct Try.underlying53 ht'
        rw [hC] at hlen
        have hyl : ys.length = 5 := hyl
        obtain ⟨_, hcl, hat⟩ := World.cells?_some hc
        obtain ⟨u0, u1, u2, u3, u4, u5, u6, u7, u8, u9, rfl⟩ : ∃ u0 u1 u2 u3 u4 u5 u6 u7 u8 u9, cs' = [u0, u1, u2, u3, u4, u5, u6, u7, u8, u9] := by
          match cs', hlen with
          | [u0, u1, u2, u3, u4, u5, u6, u7, u8, u9], _ => exact ⟨u0, u1, u2, u3, u4, u5, u6, u7, u8, u9, rfl⟩
        have hy0 : ys[0]? = some ys[0] := List.getElem?_eq_getElem (by omega)
        have hy1 : ys[1]? = some ys[1] := List.getElem?_eq_getElem (by omega)
        have hy2 : ys[2]? = some ys[2] := List.getElem?_eq_getElem (by omega)
        have hy3 : ys[3]? = some ys[3] := List.getElem?_eq_getElem (by omega)
        have hy4 : ys[4]? = some ys[4] := List.getElem?_eq_getElem (by omega)
        have f0 : DataW.trod enc Try.prog W 0 (fun _ => true) true n' 3 (([u0, u1, u2, u3, u4, u5, u6, u7, u8, u9].drop 0).take (Try.prog.cellsOf 3)) = ys[0]? := hf 0 _ rfl
        have f1 : DataW.trod enc Try.prog W 0 (fun _ => true) true n' 9 (([u0, u1, u2, u3, u4, u5, u6, u7, u8, u9].drop 1).take (Try.prog.cellsOf 9)) = ys[1]? := hf 1 _ rfl
        have f2 : DataW.trod enc Try.prog W 0 (fun _ => true) true n' 3 (([u0, u1, u2, u3, u4, u5, u6, u7, u8, u9].drop 2).take (Try.prog.cellsOf 3)) = ys[2]? := hf 2 _ rfl
        have f3 : DataW.trod enc Try.prog W 0 (fun _ => true) true n' 51 (([u0, u1, u2, u3, u4, u5, u6, u7, u8, u9].drop 3).take (Try.prog.cellsOf 51)) = ys[3]? := hf 3 _ rfl
        have f4 : DataW.trod enc Try.prog W 0 (fun _ => true) true n' 4 (([u0, u1, u2, u3, u4, u5, u6, u7, u8, u9].drop 9).take (Try.prog.cellsOf 4)) = ys[4]? := hf 4 _ rfl
        rw [hI] at f0 f2
        rw [hS] at f1
        rw [hC2] at f3
        rw [hB] at f4
        obtain ⟨s0, e0, _, _⟩ := DataW.trod_int Try.underlying3 (f0.trans hy0)
        obtain ⟨s1, e1, _, _⟩ := DataW.trod_string Try.underlying9 (f1.trans hy1)
        obtain ⟨s2, e2, _, _⟩ := DataW.trod_int Try.underlying3 (f2.trans hy2)
        obtain ⟨s9, e9, _⟩ := DataW.trod_bool Try.underlying4 (f4.trans hy4)
        obtain ⟨zs, n3, hn3, hz, hzlen, hzl, hg⟩ := DataW.trod_struct Try.underlying51 (f3.trans hy3)
        have hzl : zs.length = 6 := hzl
        have hz0 : zs[0]? = some zs[0] := List.getElem?_eq_getElem (by omega)
        have hz1 : zs[1]? = some zs[1] := List.getElem?_eq_getElem (by omega)
        have hz2 : zs[2]? = some zs[2] := List.getElem?_eq_getElem (by omega)
        have hz3 : zs[3]? = some zs[3] := List.getElem?_eq_getElem (by omega)
        have hz4 : zs[4]? = some zs[4] := List.getElem?_eq_getElem (by omega)
        have hz5 : zs[5]? = some zs[5] := List.getElem?_eq_getElem (by omega)
        have g0 : DataW.trod enc Try.prog W 0 (fun _ => true) true n3 3 (((([u0, u1, u2, u3, u4, u5, u6, u7, u8, u9].drop 3).take 6).drop 0).take (Try.prog.cellsOf 3)) = zs[0]? := hg 0 _ rfl
        have g1 : DataW.trod enc Try.prog W 0 (fun _ => true) true n3 3 (((([u0, u1, u2, u3, u4, u5, u6, u7, u8, u9].drop 3).take 6).drop 1).take (Try.prog.cellsOf 3)) = zs[1]? := hg 1 _ rfl
        have g2 : DataW.trod enc Try.prog W 0 (fun _ => true) true n3 4 (((([u0, u1, u2, u3, u4, u5, u6, u7, u8, u9].drop 3).take 6).drop 2).take (Try.prog.cellsOf 4)) = zs[2]? := hg 2 _ rfl
        have g3 : DataW.trod enc Try.prog W 0 (fun _ => true) true n3 3 (((([u0, u1, u2, u3, u4, u5, u6, u7, u8, u9].drop 3).take 6).drop 3).take (Try.prog.cellsOf 3)) = zs[3]? := hg 3 _ rfl
        have g4 : DataW.trod enc Try.prog W 0 (fun _ => true) true n3 3 (((([u0, u1, u2, u3, u4, u5, u6, u7, u8, u9].drop 3).take 6).drop 4).take (Try.prog.cellsOf 3)) = zs[4]? := hg 4 _ rfl
        have g5 : DataW.trod enc Try.prog W 0 (fun _ => true) true n3 3 (((([u0, u1, u2, u3, u4, u5, u6, u7, u8, u9].drop 3).take 6).drop 5).take (Try.prog.cellsOf 3)) = zs[5]? := hg 5 _ rfl
        rw [hI] at g0 g1 g3 g4 g5
        rw [hB] at g2
        obtain ⟨s3, e3, _, _⟩ := DataW.trod_int Try.underlying3 (g0.trans hz0)
        obtain ⟨s4, e4, _, _⟩ := DataW.trod_int Try.underlying3 (g1.trans hz1)
        obtain ⟨s5, e5, _⟩ := DataW.trod_bool Try.underlying4 (g2.trans hz2)
        obtain ⟨s6, e6, _, _⟩ := DataW.trod_int Try.underlying3 (g3.trans hz3)
        obtain ⟨s7, e7, _, _⟩ := DataW.trod_int Try.underlying3 (g4.trans hz4)
        obtain ⟨s8, e8, _, _⟩ := DataW.trod_int Try.underlying3 (g5.trans hz5)
        obtain rfl : u0 = .int .i64 s0 := by simpa using e0
        obtain rfl : u1 = .string s1 := by simpa using e1
        obtain rfl : u2 = .int .i64 s2 := by simpa using e2
        obtain rfl : u3 = .int .i64 s3 := by simpa using e3
        obtain rfl : u4 = .int .i64 s4 := by simpa using e4
        obtain rfl : u5 = .bool s5 := by simpa using e5
        obtain rfl : u6 = .int .i64 s6 := by simpa using e6
        obtain rfl : u7 = .int .i64 s7 := by simpa using e7
        obtain rfl : u8 = .int .i64 s8 := by simpa using e8
        obtain rfl : u9 = .bool s9 := by simpa using e9
        have key : ∀ (j : Nat) (hj : j < 10) (u : Value), [Value.int .i64 s0, .string s1, .int .i64 s2, .int .i64 s3, .int .i64 s4, .bool s5, .int .i64 s6, .int .i64 s7, .int .i64 s8, .bool s9][j]? = some u → W.cell? (a.add (i * 10 + j)) = some u := fun j hj u hu => by
          have hcell := hat j hj
          rw [← Go.Deep.add_add, hcell]
          exact hu
        exact ⟨⟨s0, s1, s2, ⟨s3, s4, s5, s6, s7, s8⟩, s9⟩, fun _ => ⟨key 0 (by omega) _ rfl, key 1 (by omega) _ rfl, key 2 (by omega) _ rfl, key 3 (by omega) _ rfl, key 4 (by omega) _ rfl, key 5 (by omega) _ rfl, key 6 (by omega) _ rfl, key 7 (by omega) _ rfl, key 8 (by omega) _ rfl, key 9 (by omega) _ rfl⟩⟩
      · exact ⟨z53, fun h => absurd h him⟩
    obtain ⟨g, hgx⟩ := Classical.axiomOfChoice hex
    refine ⟨some a, m, (List.range len0).map g, by simp, ?_, by simpa using hl, by simp; omega, fun _ _ => trivial, hlt⟩
    refine ⟨rfl, by simp; unfold maxLen at hm; omega, fun _ => ⟨a, rfl, fun j p hp => ?_⟩⟩
    have hj : j < len0 := by have := (List.getElem?_eq_some_iff.1 hp).1; simpa using this
    obtain rfl : g j = p := by simpa [hj] using hp
    obtain ⟨c0, c1, c2, c3, c4, c5, c6, c7, c8, c9⟩ := hgx j (by omega)
    refine ⟨[.int .i64 (g j).f0, .string (g j).f1, .int .i64 (g j).f2, .int .i64 (g j).f3.f0, .int .i64 (g j).f3.f1, .bool (g j).f3.f2, .int .i64 (g j).f3.f3, .int .i64 (g j).f3.f4, .int .i64 (g j).f3.f5, .bool (g j).f4], rfl, k53_mk W (g j), fun i u hu => ?_⟩
    match i, hu with
    | 0, hu => simp at hu; subst hu; exact c0
    | 1, hu => simp at hu; subst hu; exact c1
    | 2, hu => simp at hu; subst hu; exact c2
    | 3, hu => simp at hu; subst hu; exact c3
    | 4, hu => simp at hu; subst hu; exact c4
    | 5, hu => simp at hu; subst hu; exact c5
    | 6, hu => simp at hu; subst hu; exact c6
    | 7, hu => simp at hu; subst hu; exact c7
    | 8, hu => simp at hu; subst hu; exact c8
    | 9, hu => simp at hu; subst hu; exact c9
    | i + 10, hu => simp at hu
theorem own : ownKnob Try.prog.godebug = none := by kernel_rfl
theorem laidOut : laidOutB Try.prog = true := by kernel_rfl
set_option maxRecDepth 100000 in
theorem lifted (os : Os) (started : os.Started) (H : Type) (enc : TypeId × Value → H) :
    ReturnsInHanded {} Try.checked os 6 .any (Rows.statActsSpec.pre6 enc Try.prog Try.f6 Rows.statActsRow.domain false) (Rows.statActsSpec.post enc Try.prog Try.f6 false true false false) := by
  refine returnsInHanded_of_change_sized (C := Try.checked) own started (by kernel_rfl) Try.func6
    (ChangeSpec.witness6 (enc := enc) (C := Try.checked) false ⟨#[], #[.slice none 0 0, .string ByteArray.empty], []⟩ 8 (by kernel_rfl) (by kernel_rfl) (by kernel_rfl) (by kernel_rfl)) ?_
  intro W base args ds gs before hval0 hW hcnd hsz0 _
  have hsz : (DataW.weightsEach Try.prog (Try.f6.params.toList ++ Rows.statActsSpec.plain.varTypes Try.prog) (ds ++ gs)).all (· ≤ reachBytes) = true := hsz0
  have hval : ∀ (j : Nat) t v, Try.f6.params[j]? = some t → args[j]? = some v → Value.okWide Try.prog W .any base t v := hval0
  have hW' := hW
  obtain ⟨p, q, hA0, hV, rfl, hfz, hnd⟩ := hW
  have hA : DataW.TrodAll enc Try.prog W 0 (fun _ => true) true Try.f6.params.toList args.toList ds p := hA0
  rw [Try.params6] at hA hval hsz
  obtain ⟨v0, vs0, d0, ds0, p0, q0, hargs, rfl, rfl, h0, r0⟩ := trodAll_cons hA
  obtain ⟨v1, vs1, d1, ds1, p1, q1, rfl, rfl, rfl, h1, r1⟩ := trodAll_cons r0
  obtain ⟨rfl, rfl, rfl⟩ := trodAll_nil r1
  obtain rfl : args = #[v0, v1] := by cases args; simp_all
  obtain ⟨rfl, rfl⟩ := trodVars_none hV
  obtain ⟨A0, c0, l0, rfl, kd0, le0, ml0, rgs0, lt0⟩ := open_sl_act (hval 0 41 v0 rfl rfl) h0
  obtain ⟨a1, rfl, rfl, rfl, y1⟩ := open_string Try.underlying9 (hval 1 9 v1 rfl rfl) h1
  have w1 : a1.size ≤ 140737488351232 := by
    have z := sized_string hsz (j := 1) (t := 9) rfl rfl
    rw [Array.length_toList] at z
    exact z
  clear hA0 hval0 hsz0 hsz
  refine (Go.Proofs.Ytehlhaddbfjllaa.Mp.statActs_calls A0 c0 l0 a1 W kd0 le0 ml0).mono fun e W' ⟨he, bel⟩ => ?_
  subst he
  exact ⟨_, rfl, _, _, _, [], _, [], hW', trodAll_mk1 (shut_bool Try.underlying4 _), (trodAll_cons_mk (Below.trod laidOut (by kernel_rfl) (of_decide_eq_true (by kernel_rfl)) h0 bel lt0) (trodAll_cons_mk (shut_string Try.underlying9 y1) trodAll_mk0)), rfl, bel.frame _, fun h => by cases h⟩
theorem over : Rows.statActsRow.holds Try.pinned (OpenSpec.ofChange Rows.statActsSpec) :=
  OpenClaim.holds_of_wide 6 Try.f6 rfl rfl rfl rfl rfl rfl rfl ⟨rfl, rfl, rfl, rfl, rfl⟩ rfl rfl rfl rfl rfl (by kernel_rfl) Try.func6 (by kernel_rfl)
    (of_decide_eq_true (by kernel_rfl)) (by unfold Func.isWrapper; first | (rw [if_pos (by decide +kernel)]; kernel_rfl) | (rw [if_neg (by decide +kernel)]; exact ⟨rfl, rfl⟩))
    (fun os started H enc _ => lifted os started H enc)
theorem proved : Rows.StatActsSaid := over
#print axioms proved
end Go.Proofs.Ytehlhaddbfjllaa.statActs
namespace Go.Proofs.Ytehlhaddbfjllaa
/-- The row, under a short name, for the claim. -/
theorem statActs_holds : Rows.StatActsSaid := statActs.proved
end Go.Proofs.Ytehlhaddbfjllaa
