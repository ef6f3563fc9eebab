/- Maps of texts to numbers, and what counts in them: a part of the proof. -/
import Derived.Test.YtehlhaddbfjllaaOSS
import Derived.Deep.CutBlock
namespace Go.Proofs.Ytehlhaddbfjllaa.Mp
open Go.RowKit Go.Proofs.YtehlhaddbfjllaaW.PrintWords Go.Proofs.YtehlhaddbfjllaaW.PrintLast Go.Proofs.YtehlhaddbfjllaaW.PrintMore Go.Proofs.Ytehlhaddbfjllaa.PStatActs
set_option maxRecDepth 100000
set_option linter.unusedVariables false
attribute [local go_sem ↓] Go.wp_at_zero Go.wp_at_succ
set_option maxHeartbeats 4000000 in
theorem SD.dnote {w0 w : World} {p mb r : Nat} {N K : List KV} (h : SD w0 w p mb r N K) (pt : ByteArray) (hs : pt.size ≤ 900) (hf : K.length + 6 ≤ 100000) (v : S51) (lc : Bool) : Calls Try.prog 25 #[.pointer (some ⟨r, 0, none⟩), .string pt, .agg #[.int .i64 v.f0, .int .i64 v.f1, .bool v.f2, .int .i64 v.f3, .int .i64 v.f4, .int .i64 v.f5], .bool lc] w fun e w' => e = .returned (.tuple #[]) ∧ SD w0 w' p mb r N (addsK K (noteA pt v lc)) := by
  obtain ⟨v0, v1, v2, v3, v4, v5⟩ := v
  have HNA := Lib.hid (show noteA pt ⟨v0, v1, v2, v3, v4, v5⟩ lc = [(pt ++ tTotal, nadd (nadd v3 v4) v5), (pt ++ tWithin, v3), (pt ++ tNear, v4), (pt ++ tOver, v5)] ++ (if 0 < v5 ∧ v0 = 1 then [(pt ++ tShadow, nadd (nadd v3 v4) v5)] else []) ++ (if lc = true then [(pt ++ tLocal, nadd (nadd v3 v4) v5)] else []) from rfl)
  show Calls Try.prog 25 #[.pointer (some ⟨r, 0, none⟩), .string pt, .agg #[.int .i64 v0, .int .i64 v1, .bool v2, .int .i64 v3, .int .i64 v4, .int .i64 v5], .bool lc] w _
  have H := Aside0.mk h
  have C1 : Aside0 (∀ w, Calls Try.prog 44 #[.int .i64 v3, .int .i64 v4] w fun e w' => e = .returned (.int .i64 (nadd v3 v4)) ∧ ∃ m, w' = w.drewN m) := ⟨radd_any v3 v4⟩
  have C2 : Aside0 (∀ w, Calls Try.prog 44 #[.int .i64 (nadd v3 v4), .int .i64 v5] w fun e w' => e = .returned (.int .i64 (nadd (nadd v3 v4) v5)) ∧ ∃ m, w' = w.drewN m) := ⟨radd_any (nadd v3 v4) v5⟩
  generalize nadd (nadd v3 v4) v5 = al at *
  generalize nadd v3 v4 = a1 at *
  have ztTotal : tTotal.size = 6 := rfl
  have ztWithin : tWithin.size = 7 := rfl
  have ztNear : tNear.size = 5 := rfl
  have ztOver : tOver.size = 5 := rfl
  have ztShadow : tShadow.size = 7 := rfl
  have ztLocal : tLocal.size = 6 := rfl
  have e5 : (9223372036854775807 < pt.size + 5) = False := eq_false (by omega)
  have e6 : (9223372036854775807 < pt.size + 6) = False := eq_false (by omega)
  have e7 : (9223372036854775807 < pt.size + 7) = False := eq_false (by omega)
  clear h
  go_enter Try.func25, Try.ntmps25
  go_upto_region 1 with (fail)
  obtain ⟨wx, hwx⟩ : ∃ wx, wx = w.alloc (.cells #[.int .i64 v0, .int .i64 v1, .bool v2, .int .i64 v3, .int .i64 v4, .int .i64 v5] 51) := ⟨_, rfl⟩
  rw [← hwx]
  obtain ⟨xb, hxb⟩ : ∃ xb, xb = w.heap.size := ⟨_, rfl⟩
  rw [← hxb]
  have hx0 : wx.heap[xb]? = some (.cells #[.int .i64 v0, .int .i64 v1, .bool v2, .int .i64 v3, .int .i64 v4, .int .i64 v5] 51 (0, 0)) := by rw [hwx, hxb]; exact blk_new _ _
  have HW : Aside0 (SD w0 wx p mb r N K) := ⟨H.out.movedN (by rw [hwx]; exact (Frm.refl _ w).alloc _)⟩
  have HX := Aside0.mk hx0
  clear hwx hxb H
  have x0 := (blk_cell hx0 0).trans (show (#[.int .i64 v0, .int .i64 v1, .bool v2, .int .i64 v3, .int .i64 v4, .int .i64 v5][0]? : Option Value) = some (.int .i64 v0) from rfl); have x3 := (blk_cell hx0 3).trans (show (#[.int .i64 v0, .int .i64 v1, .bool v2, .int .i64 v3, .int .i64 v4, .int .i64 v5][3]? : Option Value) = some (.int .i64 v3) from rfl); have x4 := (blk_cell hx0 4).trans (show (#[.int .i64 v0, .int .i64 v1, .bool v2, .int .i64 v3, .int .i64 v4, .int .i64 v5][4]? : Option Value) = some (.int .i64 v4) from rfl); have x5 := (blk_cell hx0 5).trans (show (#[.int .i64 v0, .int .i64 v1, .bool v2, .int .i64 v3, .int .i64 v4, .int .i64 v5][5]? : Option Value) = some (.int .i64 v5) from rfl)
  clear hx0
  go_region_held3 (fun w' => w'.cell? ⟨xb, 3, none⟩ = some (.int .i64 v3) ∧ w'.cell? ⟨xb, 4, none⟩ = some (.int .i64 v4) ∧ w'.cell? ⟨xb, 5, none⟩ = some (.int .i64 v5)) (go_keep) (first | (go_at_call_of 44 a1; refine (C2.out _).mono ?_; rintro e w3 ⟨rfl, m2, rfl⟩) | (go_at_call 44; refine (C1.out _).mono ?_; rintro e w2 ⟨rfl, m1, rfl⟩))
  have HWd : Aside0 (SD w0 (wx.drewN (1 + m1 + m2)) p mb r N K) := ⟨HW.out.movedN ((Frm.refl _ _).drewN _)⟩
  have HXd : Aside0 ((wx.drewN (1 + m1 + m2)).heap[xb]? = some (.cells #[.int .i64 v0, .int .i64 v1, .bool v2, .int .i64 v3, .int .i64 v4, .int .i64 v5] 51 (0, 0))) := ⟨HX.out⟩
  clear HW HX
  have HW := HWd
  have HX := HXd
  clear HWd HXd
  generalize wx.drewN (1 + m1 + m2) = wy at *
  clear x0 x3 x4 x5
  have hx1 := HX.out
  have c1_0 := (blk_cell hx1 0).trans (show (#[.int .i64 v0, .int .i64 v1, .bool v2, .int .i64 v3, .int .i64 v4, .int .i64 v5][0]? : Option Value) = some (.int .i64 v0) from rfl); have c1_3 := (blk_cell hx1 3).trans (show (#[.int .i64 v0, .int .i64 v1, .bool v2, .int .i64 v3, .int .i64 v4, .int .i64 v5][3]? : Option Value) = some (.int .i64 v3) from rfl); have c1_4 := (blk_cell hx1 4).trans (show (#[.int .i64 v0, .int .i64 v1, .bool v2, .int .i64 v3, .int .i64 v4, .int .i64 v5][4]? : Option Value) = some (.int .i64 v4) from rfl); have c1_5 := (blk_cell hx1 5).trans (show (#[.int .i64 v0, .int .i64 v1, .bool v2, .int .i64 v3, .int .i64 v4, .int .i64 v5][5]? : Option Value) = some (.int .i64 v5) from rfl)
  clear hx1
  go_wp2_with fail
  (with_reducible refine (HW.out.daddx HX.out (by decide) (pt ++ tTotal) (by rw [ByteArray.size_append, ztTotal]; omega) (by omega) al).mono ?_); rintro e w1 ⟨rfl, h1, hx1⟩
  have HW1 := Aside0.mk h1; have HX1 := Aside0.mk hx1; clear h1 hx1 c1_0 c1_3 c1_4 c1_5
  have hx2 := HX1.out
  have c2_0 := (blk_cell hx2 0).trans (show (#[.int .i64 v0, .int .i64 v1, .bool v2, .int .i64 v3, .int .i64 v4, .int .i64 v5][0]? : Option Value) = some (.int .i64 v0) from rfl); have c2_3 := (blk_cell hx2 3).trans (show (#[.int .i64 v0, .int .i64 v1, .bool v2, .int .i64 v3, .int .i64 v4, .int .i64 v5][3]? : Option Value) = some (.int .i64 v3) from rfl); have c2_4 := (blk_cell hx2 4).trans (show (#[.int .i64 v0, .int .i64 v1, .bool v2, .int .i64 v3, .int .i64 v4, .int .i64 v5][4]? : Option Value) = some (.int .i64 v4) from rfl); have c2_5 := (blk_cell hx2 5).trans (show (#[.int .i64 v0, .int .i64 v1, .bool v2, .int .i64 v3, .int .i64 v4, .int .i64 v5][5]? : Option Value) = some (.int .i64 v5) from rfl)
  clear hx2
  go_wp2_with fail
  (with_reducible refine (HW1.out.daddx HX1.out (by decide) (pt ++ tWithin) (by rw [ByteArray.size_append, ztWithin]; omega) (by have b0 := addK_len K (pt ++ tTotal) al; omega) v3).mono ?_); rintro e w2 ⟨rfl, h2, hx2⟩
  have HW2 := Aside0.mk h2; have HX2 := Aside0.mk hx2; clear h2 hx2 c2_0 c2_3 c2_4 c2_5
  have hx3 := HX2.out
  have c3_0 := (blk_cell hx3 0).trans (show (#[.int .i64 v0, .int .i64 v1, .bool v2, .int .i64 v3, .int .i64 v4, .int .i64 v5][0]? : Option Value) = some (.int .i64 v0) from rfl); have c3_3 := (blk_cell hx3 3).trans (show (#[.int .i64 v0, .int .i64 v1, .bool v2, .int .i64 v3, .int .i64 v4, .int .i64 v5][3]? : Option Value) = some (.int .i64 v3) from rfl); have c3_4 := (blk_cell hx3 4).trans (show (#[.int .i64 v0, .int .i64 v1, .bool v2, .int .i64 v3, .int .i64 v4, .int .i64 v5][4]? : Option Value) = some (.int .i64 v4) from rfl); have c3_5 := (blk_cell hx3 5).trans (show (#[.int .i64 v0, .int .i64 v1, .bool v2, .int .i64 v3, .int .i64 v4, .int .i64 v5][5]? : Option Value) = some (.int .i64 v5) from rfl)
  clear hx3
  go_wp2_with fail
  (with_reducible refine (HW2.out.daddx HX2.out (by decide) (pt ++ tNear) (by rw [ByteArray.size_append, ztNear]; omega) (by have b0 := addK_len K (pt ++ tTotal) al; have b1 := addK_len (addK K (pt ++ tTotal) al) (pt ++ tWithin) v3; omega) v4).mono ?_); rintro e w3 ⟨rfl, h3, hx3⟩
  have HW3 := Aside0.mk h3; have HX3 := Aside0.mk hx3; clear h3 hx3 c3_0 c3_3 c3_4 c3_5
  have hx4 := HX3.out
  have c4_0 := (blk_cell hx4 0).trans (show (#[.int .i64 v0, .int .i64 v1, .bool v2, .int .i64 v3, .int .i64 v4, .int .i64 v5][0]? : Option Value) = some (.int .i64 v0) from rfl); have c4_3 := (blk_cell hx4 3).trans (show (#[.int .i64 v0, .int .i64 v1, .bool v2, .int .i64 v3, .int .i64 v4, .int .i64 v5][3]? : Option Value) = some (.int .i64 v3) from rfl); have c4_4 := (blk_cell hx4 4).trans (show (#[.int .i64 v0, .int .i64 v1, .bool v2, .int .i64 v3, .int .i64 v4, .int .i64 v5][4]? : Option Value) = some (.int .i64 v4) from rfl); have c4_5 := (blk_cell hx4 5).trans (show (#[.int .i64 v0, .int .i64 v1, .bool v2, .int .i64 v3, .int .i64 v4, .int .i64 v5][5]? : Option Value) = some (.int .i64 v5) from rfl)
  clear hx4
  go_wp2_with fail
  (with_reducible refine (HW3.out.daddx HX3.out (by decide) (pt ++ tOver) (by rw [ByteArray.size_append, ztOver]; omega) (by have b0 := addK_len K (pt ++ tTotal) al; have b1 := addK_len (addK K (pt ++ tTotal) al) (pt ++ tWithin) v3; have b2 := addK_len (addK (addK K (pt ++ tTotal) al) (pt ++ tWithin) v3) (pt ++ tNear) v4; omega) v5).mono ?_); rintro e w4 ⟨rfl, h4, hx4⟩
  have HW4 := Aside0.mk h4; have HX4 := Aside0.mk hx4; clear h4 hx4 c4_0 c4_3 c4_4 c4_5
  have hx9 := HX4.out
  have y0 := (blk_cell hx9 0).trans (show (#[.int .i64 v0, .int .i64 v1, .bool v2, .int .i64 v3, .int .i64 v4, .int .i64 v5][0]? : Option Value) = some (.int .i64 v0) from rfl); have y3 := (blk_cell hx9 3).trans (show (#[.int .i64 v0, .int .i64 v1, .bool v2, .int .i64 v3, .int .i64 v4, .int .i64 v5][3]? : Option Value) = some (.int .i64 v3) from rfl); have y4 := (blk_cell hx9 4).trans (show (#[.int .i64 v0, .int .i64 v1, .bool v2, .int .i64 v3, .int .i64 v4, .int .i64 v5][4]? : Option Value) = some (.int .i64 v4) from rfl); have y5 := (blk_cell hx9 5).trans (show (#[.int .i64 v0, .int .i64 v1, .bool v2, .int .i64 v3, .int .i64 v4, .int .i64 v5][5]? : Option Value) = some (.int .i64 v5) from rfl)
  clear hx9
  by_cases hsh : 0 < v5 ∧ v0 = 1
  · have d1 : decide (0 < v5) = true := decide_eq_true hsh.1
    have d2 : (v0 == 1) = true := by simpa using hsh.2
    have hv0 : v0 = 1 := hsh.2
    have HSH := Lib.hid hsh
    clear hsh
    go_upto_region 7 with (fail)
    clear y0 y3 y4 y5 d1 d2 hv0
    have hx5 := HX4.out
    have c5_0 := (blk_cell hx5 0).trans (show (#[.int .i64 v0, .int .i64 v1, .bool v2, .int .i64 v3, .int .i64 v4, .int .i64 v5][0]? : Option Value) = some (.int .i64 v0) from rfl); have c5_3 := (blk_cell hx5 3).trans (show (#[.int .i64 v0, .int .i64 v1, .bool v2, .int .i64 v3, .int .i64 v4, .int .i64 v5][3]? : Option Value) = some (.int .i64 v3) from rfl); have c5_4 := (blk_cell hx5 4).trans (show (#[.int .i64 v0, .int .i64 v1, .bool v2, .int .i64 v3, .int .i64 v4, .int .i64 v5][4]? : Option Value) = some (.int .i64 v4) from rfl); have c5_5 := (blk_cell hx5 5).trans (show (#[.int .i64 v0, .int .i64 v1, .bool v2, .int .i64 v3, .int .i64 v4, .int .i64 v5][5]? : Option Value) = some (.int .i64 v5) from rfl)
    clear hx5
    go_wp2_with fail
    (with_reducible refine (HW4.out.daddx HX4.out (by decide) (pt ++ tShadow) (by rw [ByteArray.size_append, ztShadow]; omega) (by have b0 := addK_len K (pt ++ tTotal) al; have b1 := addK_len (addK K (pt ++ tTotal) al) (pt ++ tWithin) v3; have b2 := addK_len (addK (addK K (pt ++ tTotal) al) (pt ++ tWithin) v3) (pt ++ tNear) v4; have b3 := addK_len (addK (addK (addK K (pt ++ tTotal) al) (pt ++ tWithin) v3) (pt ++ tNear) v4) (pt ++ tOver) v5; omega) al).mono ?_); rintro e w5 ⟨rfl, h5, hx5⟩
    have HW5 := Aside0.mk h5; have HX5 := Aside0.mk hx5; clear h5 hx5 c5_0 c5_3 c5_4 c5_5
    have hsh := HSH.out
    cases lc with
    | true =>
      have hx6 := HX5.out
      have c6_0 := (blk_cell hx6 0).trans (show (#[.int .i64 v0, .int .i64 v1, .bool v2, .int .i64 v3, .int .i64 v4, .int .i64 v5][0]? : Option Value) = some (.int .i64 v0) from rfl); have c6_3 := (blk_cell hx6 3).trans (show (#[.int .i64 v0, .int .i64 v1, .bool v2, .int .i64 v3, .int .i64 v4, .int .i64 v5][3]? : Option Value) = some (.int .i64 v3) from rfl); have c6_4 := (blk_cell hx6 4).trans (show (#[.int .i64 v0, .int .i64 v1, .bool v2, .int .i64 v3, .int .i64 v4, .int .i64 v5][4]? : Option Value) = some (.int .i64 v4) from rfl); have c6_5 := (blk_cell hx6 5).trans (show (#[.int .i64 v0, .int .i64 v1, .bool v2, .int .i64 v3, .int .i64 v4, .int .i64 v5][5]? : Option Value) = some (.int .i64 v5) from rfl)
      clear hx6
      go_wp2_with fail
      (with_reducible refine (HW5.out.daddx HX5.out (by decide) (pt ++ tLocal) (by rw [ByteArray.size_append, ztLocal]; omega) (by have b0 := addK_len K (pt ++ tTotal) al; have b1 := addK_len (addK K (pt ++ tTotal) al) (pt ++ tWithin) v3; have b2 := addK_len (addK (addK K (pt ++ tTotal) al) (pt ++ tWithin) v3) (pt ++ tNear) v4; have b3 := addK_len (addK (addK (addK K (pt ++ tTotal) al) (pt ++ tWithin) v3) (pt ++ tNear) v4) (pt ++ tOver) v5; have b4 := addK_len (addK (addK (addK (addK K (pt ++ tTotal) al) (pt ++ tWithin) v3) (pt ++ tNear) v4) (pt ++ tOver) v5) (pt ++ tShadow) al; omega) al).mono ?_); rintro e w6 ⟨rfl, h6, hx6⟩
      have HW6 := Aside0.mk h6; have HX6 := Aside0.mk hx6; clear h6 hx6 c6_0 c6_3 c6_4 c6_5
      go_wp2
      go_end0
      refine ⟨rfl, ?_⟩
      rw [HNA.out, if_pos hsh]
      first | rw [if_pos rfl] | rw [if_pos trivial]
      exact HW6.out
    | false =>
      go_wp2
      go_end0
      refine ⟨rfl, ?_⟩
      rw [HNA.out, if_pos hsh]
      first | rw [if_neg (by decide)] | rw [if_neg not_false]
      exact HW5.out
  · have dd : decide (0 < v5) = false ∨ (v0 == 1) = false := by
      by_cases h1 : 0 < v5
      · exact .inr (by simpa using fun e => hsh ⟨h1, e⟩)
      · exact .inl (decide_eq_false h1)
    have HSH := Lib.hid hsh
    clear hsh
    rcases dd with d1 | d2
    · go_upto_region 8 with (fail)
      clear y0 y3 y4 y5 d1
      have hsh := HSH.out
      cases lc with
      | true =>
        have hx6 := HX4.out
        have c6_0 := (blk_cell hx6 0).trans (show (#[.int .i64 v0, .int .i64 v1, .bool v2, .int .i64 v3, .int .i64 v4, .int .i64 v5][0]? : Option Value) = some (.int .i64 v0) from rfl); have c6_3 := (blk_cell hx6 3).trans (show (#[.int .i64 v0, .int .i64 v1, .bool v2, .int .i64 v3, .int .i64 v4, .int .i64 v5][3]? : Option Value) = some (.int .i64 v3) from rfl); have c6_4 := (blk_cell hx6 4).trans (show (#[.int .i64 v0, .int .i64 v1, .bool v2, .int .i64 v3, .int .i64 v4, .int .i64 v5][4]? : Option Value) = some (.int .i64 v4) from rfl); have c6_5 := (blk_cell hx6 5).trans (show (#[.int .i64 v0, .int .i64 v1, .bool v2, .int .i64 v3, .int .i64 v4, .int .i64 v5][5]? : Option Value) = some (.int .i64 v5) from rfl)
        clear hx6
        go_wp2_with fail
        (with_reducible refine (HW4.out.daddx HX4.out (by decide) (pt ++ tLocal) (by rw [ByteArray.size_append, ztLocal]; omega) (by have b0 := addK_len K (pt ++ tTotal) al; have b1 := addK_len (addK K (pt ++ tTotal) al) (pt ++ tWithin) v3; have b2 := addK_len (addK (addK K (pt ++ tTotal) al) (pt ++ tWithin) v3) (pt ++ tNear) v4; have b3 := addK_len (addK (addK (addK K (pt ++ tTotal) al) (pt ++ tWithin) v3) (pt ++ tNear) v4) (pt ++ tOver) v5; omega) al).mono ?_); rintro e w6 ⟨rfl, h6, hx6⟩
        have HW6 := Aside0.mk h6; have HX6 := Aside0.mk hx6; clear h6 hx6 c6_0 c6_3 c6_4 c6_5
        go_wp2
        go_end0
        refine ⟨rfl, ?_⟩
        rw [HNA.out, if_neg hsh]
        first | rw [if_pos rfl] | rw [if_pos trivial]
        exact HW6.out
      | false =>
        go_wp2
        go_end0
        refine ⟨rfl, ?_⟩
        rw [HNA.out, if_neg hsh]
        first | rw [if_neg (by decide)] | rw [if_neg not_false]
        exact HW4.out
    · by_cases h1 : 0 < v5
      · have d1 : decide (0 < v5) = true := decide_eq_true h1
        clear h1
        go_upto_region 8 with (fail)
        clear y0 y3 y4 y5 d1 d2
        have hsh := HSH.out
        cases lc with
        | true =>
          have hx6 := HX4.out
          have c6_0 := (blk_cell hx6 0).trans (show (#[.int .i64 v0, .int .i64 v1, .bool v2, .int .i64 v3, .int .i64 v4, .int .i64 v5][0]? : Option Value) = some (.int .i64 v0) from rfl); have c6_3 := (blk_cell hx6 3).trans (show (#[.int .i64 v0, .int .i64 v1, .bool v2, .int .i64 v3, .int .i64 v4, .int .i64 v5][3]? : Option Value) = some (.int .i64 v3) from rfl); have c6_4 := (blk_cell hx6 4).trans (show (#[.int .i64 v0, .int .i64 v1, .bool v2, .int .i64 v3, .int .i64 v4, .int .i64 v5][4]? : Option Value) = some (.int .i64 v4) from rfl); have c6_5 := (blk_cell hx6 5).trans (show (#[.int .i64 v0, .int .i64 v1, .bool v2, .int .i64 v3, .int .i64 v4, .int .i64 v5][5]? : Option Value) = some (.int .i64 v5) from rfl)
          clear hx6
          go_wp2_with fail
          (with_reducible refine (HW4.out.daddx HX4.out (by decide) (pt ++ tLocal) (by rw [ByteArray.size_append, ztLocal]; omega) (by have b0 := addK_len K (pt ++ tTotal) al; have b1 := addK_len (addK K (pt ++ tTotal) al) (pt ++ tWithin) v3; have b2 := addK_len (addK (addK K (pt ++ tTotal) al) (pt ++ tWithin) v3) (pt ++ tNear) v4; have b3 := addK_len (addK (addK (addK K (pt ++ tTotal) al) (pt ++ tWithin) v3) (pt ++ tNear) v4) (pt ++ tOver) v5; omega) al).mono ?_); rintro e w6 ⟨rfl, h6, hx6⟩
          have HW6 := Aside0.mk h6; have HX6 := Aside0.mk hx6; clear h6 hx6 c6_0 c6_3 c6_4 c6_5
          go_wp2
          go_end0
          refine ⟨rfl, ?_⟩
          rw [HNA.out, if_neg hsh]
          first | rw [if_pos rfl] | rw [if_pos trivial]
          exact HW6.out
        | false =>
          go_wp2
          go_end0
          refine ⟨rfl, ?_⟩
          rw [HNA.out, if_neg hsh]
          first | rw [if_neg (by decide)] | rw [if_neg not_false]
          exact HW4.out
      · have d1 : decide (0 < v5) = false := decide_eq_false h1
        clear h1
        go_upto_region 8 with (fail)
        clear y0 y3 y4 y5 d1 d2
        have hsh := HSH.out
        cases lc with
        | true =>
          have hx6 := HX4.out
          have c6_0 := (blk_cell hx6 0).trans (show (#[.int .i64 v0, .int .i64 v1, .bool v2, .int .i64 v3, .int .i64 v4, .int .i64 v5][0]? : Option Value) = some (.int .i64 v0) from rfl); have c6_3 := (blk_cell hx6 3).trans (show (#[.int .i64 v0, .int .i64 v1, .bool v2, .int .i64 v3, .int .i64 v4, .int .i64 v5][3]? : Option Value) = some (.int .i64 v3) from rfl); have c6_4 := (blk_cell hx6 4).trans (show (#[.int .i64 v0, .int .i64 v1, .bool v2, .int .i64 v3, .int .i64 v4, .int .i64 v5][4]? : Option Value) = some (.int .i64 v4) from rfl); have c6_5 := (blk_cell hx6 5).trans (show (#[.int .i64 v0, .int .i64 v1, .bool v2, .int .i64 v3, .int .i64 v4, .int .i64 v5][5]? : Option Value) = some (.int .i64 v5) from rfl)
          clear hx6
          go_wp2_with fail
          (with_reducible refine (HW4.out.daddx HX4.out (by decide) (pt ++ tLocal) (by rw [ByteArray.size_append, ztLocal]; omega) (by have b0 := addK_len K (pt ++ tTotal) al; have b1 := addK_len (addK K (pt ++ tTotal) al) (pt ++ tWithin) v3; have b2 := addK_len (addK (addK K (pt ++ tTotal) al) (pt ++ tWithin) v3) (pt ++ tNear) v4; have b3 := addK_len (addK (addK (addK K (pt ++ tTotal) al) (pt ++ tWithin) v3) (pt ++ tNear) v4) (pt ++ tOver) v5; omega) al).mono ?_); rintro e w6 ⟨rfl, h6, hx6⟩
          have HW6 := Aside0.mk h6; have HX6 := Aside0.mk hx6; clear h6 hx6 c6_0 c6_3 c6_4 c6_5
          go_wp2
          go_end0
          refine ⟨rfl, ?_⟩
          rw [HNA.out, if_neg hsh]
          first | rw [if_pos rfl] | rw [if_pos trivial]
          exact HW6.out
        | false =>
          go_wp2
          go_end0
          refine ⟨rfl, ?_⟩
          rw [HNA.out, if_neg hsh]
          first | rw [if_neg (by decide)] | rw [if_neg not_false]
          exact HW4.out
end Go.Proofs.Ytehlhaddbfjllaa.Mp
