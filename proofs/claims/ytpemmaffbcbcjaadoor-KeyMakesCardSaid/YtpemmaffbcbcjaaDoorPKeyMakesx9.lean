-- WRITTEN BY THIS SESSION'S mprint.py upon the print: some functions are proved by hand
import Derived.Test.YtpemmaffbcbcjaaDoorPKeyMakesx0
import Derived.Test.YtpemmaffbcbcjaaDoorPKeyMakesx2
import Derived.Test.YtpemmaffbcbcjaaDoorPKeyMakesx4
import Derived.Test.YtpemmaffbcbcjaaDoorPKeyMakesx6
import Derived.Test.YtpemmaffbcbcjaaDoorPKeyMakesx7
import Derived.Test.YtpemmaffbcbcjaaDoorPKeyMakesx8
namespace Go.Proofs.YtpemmaffbcbcjaaDoor.PKeyMakes
open Go.RowKit Go.Proofs.YtpemmaffbcbcjaaDoorW.PrintWords Go.Proofs.YtpemmaffbcbcjaaDoorW.PrintLast Go.Proofs.YtpemmaffbcbcjaaDoorW.PrintMore
attribute [local go_sem] max2_int min2_int max_two min_two max_three min_three max_four min_four   -- for this text's walks alone
set_option linter.unusedVariables false
set_option linter.unusedSimpArgs false

/-! ### turncockref20_Make: function 30 -/
def turncockref20_Make.j0 : Nat → ByteArray → Int → Int → Bool → List (S47) → Option (ByteArray × Int × Bool)
  | 0, _, _, _, _, _ => none
  | k + 1, x0, x2, x3, x27, x262000 => if x27 = true then (some ((⟨#[]⟩ : ByteArray), 0, false)) else (if x0.size + 1 ≤ 9223372036854775807 then ((turncockref1_DescText.f k x262000).bind fun t265 => (if x0.size + 1 + t265.size ≤ 9223372036854775807 then (if x0.size + 1 + t265.size + 1 ≤ 9223372036854775807 then ((turncockref15_Unit.f x2).bind fun t266 => (if x0.size + 1 + t265.size + 1 + t266.size ≤ 9223372036854775807 then (if x0.size + 1 + t265.size + 1 + t266.size + 1 ≤ 9223372036854775807 then ((turncockref15_Window.f x3 x2).bind fun t267 => ((turncockref1_Digits.f k t267).bind fun t268 => (if x0.size + 1 + t265.size + 1 + t266.size + 1 + t268.size ≤ 9223372036854775807 then ((turncockref15_End.f x3 x2).bind fun t269 => (some ((((((x0 ++ (⟨#[124]⟩ : ByteArray)) ++ t265) ++ (⟨#[124]⟩ : ByteArray)) ++ t266) ++ (⟨#[124]⟩ : ByteArray)) ++ t268, t269, true))) else (none)))) else (none)) else (none))) else (none)) else (none))) else (none))
def turncockref20_Make.f (k : Nat) (a0 : ByteArray) (l1_0 : List (S47)) (a2 : Int) (a3 : Int) : Option (ByteArray × Int × Bool) := if a0.toList = ([] : List UInt8) then (turncockref20_Make.j0 k a0 a2 a3 true l1_0) else ((turncockref20_bar.f k a0).bind fun t262 => (if t262 = true then (turncockref20_Make.j0 k a0 a2 a3 true l1_0) else ((turncockref1_CheckDesc.f k l1_0).bind fun t263 => (if t263 = true then ((turncockref15_Secs.f a2).bind fun t264 => (turncockref20_Make.j0 k a0 a2 a3 (t264 == 0) l1_0)) else (turncockref20_Make.j0 k a0 a2 a3 true l1_0)))))
theorem turncockref20_Make.mono_l : ∀ k, (∀ y0 y1 y2 y3 y4, LeO (turncockref20_Make.j0 k y0 y1 y2 y3 y4) (turncockref20_Make.j0 (k + 1) y0 y1 y2 y3 y4))
  | 0 => fun _ _ _ _ _ r h => by simp [turncockref20_Make.j0] at h
  | k + 1 => by
    have ih0 := turncockref20_Make.mono_l k
    · intro y0 y1 y2 y3 y4
      unfold turncockref20_Make.j0
      repeat' first
      | (with_reducible exact ih0 _ _ _ _ _)
      | (with_reducible exact turncockref1_CheckDesc.mono _ _)
      | (with_reducible exact turncockref1_DescText.mono _ _)
      | (with_reducible exact turncockref1_Digits.mono _ _)
      | (with_reducible exact turncockref20_bar.mono _ _)
      | (with_reducible exact LeO.refl _)
      | (with_reducible exact LeO.none _)
      | (with_reducible refine LeO.ite ?_ ?_)
      | (with_reducible refine LeO.bind ?_ (fun _ => ?_))
      | exact ih0 _ _ _ _ _
      | exact turncockref1_CheckDesc.mono _ _
      | exact turncockref1_DescText.mono _ _
      | exact turncockref1_Digits.mono _ _
      | exact turncockref20_bar.mono _ _
      | exact LeO.none _
      | refine LeO.ite ?_ ?_
      | refine LeO.bind ?_ (fun _ => ?_)
theorem turncockref20_Make.mono : ∀ a0 a1 a2 a3 k, LeO (turncockref20_Make.f k a0 a1 a2 a3) (turncockref20_Make.f (k + 1) a0 a1 a2 a3) := by
  intro a0 a1 a2 a3 k
  have ih0 := turncockref20_Make.mono_l k
  unfold turncockref20_Make.f
  repeat' first
      | (with_reducible exact ih0 _ _ _ _ _)
      | (with_reducible exact turncockref1_CheckDesc.mono _ _)
      | (with_reducible exact turncockref1_DescText.mono _ _)
      | (with_reducible exact turncockref1_Digits.mono _ _)
      | (with_reducible exact turncockref20_bar.mono _ _)
      | (with_reducible exact LeO.refl _)
      | (with_reducible exact LeO.none _)
      | (with_reducible refine LeO.ite ?_ ?_)
      | (with_reducible refine LeO.bind ?_ (fun _ => ?_))
      | exact ih0 _ _ _ _ _
      | exact turncockref1_CheckDesc.mono _ _
      | exact turncockref1_DescText.mono _ _
      | exact turncockref1_Digits.mono _ _
      | exact turncockref20_bar.mono _ _
      | exact LeO.none _
      | refine LeO.ite ?_ ?_
      | refine LeO.bind ?_ (fun _ => ?_)
set_option maxHeartbeats 8000000 in
set_option maxRecDepth 100000 in
theorem turncockref20_Make.calls (k : Nat) (a0 : ByteArray) (A1_0 : Option Addr) (c1_0 : Nat) (l1_0 : List (S47)) (a2 : Int) (a3 : Int) (r1 : ByteArray) (r2 : Int) (r3 : Bool) (w : World) (hr1_0 : Kd.C k47 w A1_0 l1_0.length l1_0) (hc1_0 : l1_0.length ≤ c1_0) (h : turncockref20_Make.f k a0 l1_0 a2 a3 = some (r1, r2, r3)) :
    Calls Tryd.prog 30 #[.string a0, .agg #[.slice A1_0 l1_0.length c1_0], .int .i64 a2, .int .i64 a3] w fun e w' => e = .returned (.tuple #[.string r1, .int .i64 r2, .bool r3]) ∧ Below w.heap.size w w' := by
  have hu24 := Tryd.underlying24
  have HR1_0 := Aside0.mk hr1_0
  have HC1_0 := Aside0.mk hc1_0
  clear hr1_0 hc1_0
  have HB := Aside0.mk (Below.refl w.heap.size w)
  have H : (if a0.toList = ([] : List UInt8) then (turncockref20_Make.j0 k a0 a2 a3 true l1_0) else ((turncockref20_bar.f k a0).bind fun t262 => (if t262 = true then (turncockref20_Make.j0 k a0 a2 a3 true l1_0) else ((turncockref1_CheckDesc.f k l1_0).bind fun t263 => (if t263 = true then ((turncockref15_Secs.f a2).bind fun t264 => (turncockref20_Make.j0 k a0 a2 a3 (t264 == 0) l1_0)) else (turncockref20_Make.j0 k a0 a2 a3 true l1_0)))))) = some (r1, r2, r3) := h
  clear h
  have HC5 := Aside0.mk H
  clear H
  go_enter Tryd.func30, Tryd.ntmps30
  go_upto_region 1 with (first | ((with_reducible refine gate_dst (N := 5) rfl ?_); refine box_event ?hg (N := 5) ?hd (cs := #[.slice A1_0 l1_0.length c1_0]) (t := 24) ?hr ?_; (case hd => rfl); (case hg => rfl); (case hr => first | (go_simp; done) | (go_simp; rfl)); intro gb261 hg w6 hbox hb; have n0_ := Aside0.mk (below_step (by repeat (first | (with_reducible first | exact HB.out | apply below_alloc | apply pw_below_drewN | apply below_drew1) | exact HB.out)) hb); have n1_ := Aside0.mk (hbox); have n2_ := Aside0.mk ((by rw [hg]; exact (below_size (by repeat (first | (with_reducible first | exact HB.out | apply below_alloc | apply pw_below_drewN | apply below_drew1) | exact HB.out))) : w.heap.size ≤ gb261)); have n3_ := Aside0.mk ((by rw [hg]; exact (below_size (by repeat (first | (with_reducible first | exact HB.out | apply below_alloc | apply pw_below_drewN | apply below_drew1) | exact HB.out))) : w.heap.size ≤ gb261)); clear HB; have HB := n0_; have BK261 := n1_; have GW261 := n2_; have GE261 := n3_; clear n0_ n1_ n2_ n3_; clear hb hbox hg))
  (try simp only [Act.put, List.setIfInBounds_toArray, List.set_cons_zero, List.set_cons_succ])
  go_cut [27] (fun v27 wc => ∃ (kq : Nat) (x27_4 : Bool), v27 = .bool x27_4 ∧ Aside0 (turncockref20_Make.j0 kq a0 a2 a3 x27_4 l1_0 = some (r1, r2, r3)) ∧ Aside0 (kq ≤ k) ∧ Aside0 (wc.heap[gb261]? = some (.cells #[(.slice A1_0 l1_0.length c1_0)] 24 (0, 0))) ∧ Aside0 (Below w.heap.size w wc))
  case first =>
    have H := HC5.out
    clear HC5
    by_cases c7 : a0.toList = ([] : List UInt8)
    · rw [if_pos c7] at H
      have c7b0 : (a0.toList == ([] : List UInt8)) = true := beq_iff_eq.mpr c7
      have c7b1 : (a0.toList != ([] : List UInt8)) = false := bne_eq_false_iff_eq.mpr c7
      clear c7
      (first | rw [c7b0] | (simp only [i64_w, i32_w]; rw [c7b0]) | skip)
      have H' := Aside0.mk H
      clear H
      go_wp2
      go_meet
      case rel => exact ⟨_, (true), (by first | rfl | (simp; done) | (simp [*]; done)), H', ⟨by first | omega | exact Nat.le_refl _⟩, ⟨by (with_reducible repeat (first | refine blk_drewN ?_ _ | refine blk_drew ?_ | refine blk_alloc ?_ _)); exact BK261.out⟩, ⟨by repeat (first | (with_reducible first | exact HB.out | apply below_alloc | apply pw_below_drewN | apply below_drew1 | refine below_set ?_ GE261.out) | exact HB.out)⟩⟩
    · rw [if_neg c7] at H
      have c7b0 : (a0.toList == ([] : List UInt8)) = false := beq_eq_false_iff_ne.mpr c7
      have c7b1 : (a0.toList != ([] : List UInt8)) = true := bne_iff_ne.mpr c7
      (first | rw [c7b0] | (simp only [i64_w, i32_w]; rw [c7b0]) | skip)
      replace H := Option.bind_eq_some_iff.mp H
      obtain ⟨t262, A80, H⟩ := H
      replace H : (if t262 = true then (turncockref20_Make.j0 k a0 a2 a3 true l1_0) else ((turncockref1_CheckDesc.f k l1_0).bind fun t263 => (if t263 = true then ((turncockref15_Secs.f a2).bind fun t264 => (turncockref20_Make.j0 k a0 a2 a3 (t264 == 0) l1_0)) else (turncockref20_Make.j0 k a0 a2 a3 true l1_0)))) = some (r1, r2, r3) := H
      have A8 := Aside0.mk A80
      clear A80
      by_cases c9 : t262 = true
      · subst c9
        have H1 : (turncockref20_Make.j0 k a0 a2 a3 true l1_0) = some (r1, r2, r3) := by rw [if_pos rfl] at H; exact H
        clear H
        have H := H1
        clear H1
        have H' := Aside0.mk H
        clear H
        go_wp2_with (first | (go_at_call 55; (with_reducible refine (turncockref20_bar.calls k a0 true _ A8.out).mono ?_); rintro e w' ⟨rfl, ⟨nd, rfl⟩⟩))
        go_meet
        case rel => exact ⟨_, (true), (by first | rfl | (simp; done) | (simp [*]; done)), H', ⟨by first | omega | exact Nat.le_refl _⟩, ⟨by (with_reducible repeat (first | refine blk_drewN ?_ _ | refine blk_drew ?_ | refine blk_alloc ?_ _)); exact BK261.out⟩, ⟨by repeat (first | (with_reducible first | exact HB.out | apply below_alloc | apply pw_below_drewN | apply below_drew1 | refine below_set ?_ GE261.out) | exact HB.out)⟩⟩
      · replace c9 := Bool.eq_false_iff.mpr c9
        subst c9
        have H1 : ((turncockref1_CheckDesc.f k l1_0).bind fun t263 => (if t263 = true then ((turncockref15_Secs.f a2).bind fun t264 => (turncockref20_Make.j0 k a0 a2 a3 (t264 == 0) l1_0)) else (turncockref20_Make.j0 k a0 a2 a3 true l1_0))) = some (r1, r2, r3) := by rw [if_neg (show ¬ (false = true) by decide)] at H; exact H
        clear H
        have H := H1
        clear H1
        replace H := Option.bind_eq_some_iff.mp H
        obtain ⟨t263, A100, H⟩ := H
        replace H : (if t263 = true then ((turncockref15_Secs.f a2).bind fun t264 => (turncockref20_Make.j0 k a0 a2 a3 (t264 == 0) l1_0)) else (turncockref20_Make.j0 k a0 a2 a3 true l1_0)) = some (r1, r2, r3) := H
        have A10 := Aside0.mk A100
        clear A100
        by_cases c11 : t263 = true
        · subst c11
          have H1 : ((turncockref15_Secs.f a2).bind fun t264 => (turncockref20_Make.j0 k a0 a2 a3 (t264 == 0) l1_0)) = some (r1, r2, r3) := by rw [if_pos rfl] at H; exact H
          clear H
          have H := H1
          clear H1
          replace H := Option.bind_eq_some_iff.mp H
          obtain ⟨t264, A120, H⟩ := H
          replace H : (turncockref20_Make.j0 k a0 a2 a3 (t264 == 0) l1_0) = some (r1, r2, r3) := H
          have A12 := Aside0.mk A120
          clear A120
          have H' := Aside0.mk H
          clear H
          go_wp2_with (first | (go_at_call 55; (with_reducible refine (turncockref20_bar.calls k a0 false _ A8.out).mono ?_); rintro e w' ⟨rfl, ⟨nd, rfl⟩⟩; have hcz13_0 : w6.cell? ⟨gb261, 0, none⟩ = some (.slice A1_0 l1_0.length c1_0) := (blk_cell BK261.out 0).trans rfl; have hfz13_0 := blk_frozen BK261.out 0) | (go_at_call 17; (with_reducible refine (turncockref1_CheckDesc.calls k _ _ l1_0 true _ ?side1 ?side2 A10.out).mono ?_); (case side1 => repeat (first | exact (Kd.C_below HR1_0.out (by repeat (first | (with_reducible first | exact HB.out | apply below_alloc | apply pw_below_drewN | apply below_drew1 | refine below_set ?_ GE261.out) | exact HB.out))) | (with_reducible refine Kd.C_alloc ?_ _) | (with_reducible refine Kd.C_drewN ?_ _) | (with_reducible refine Kd.C_drew ?_))); (case side2 => exact HC1_0.out); rintro e w14 ⟨rfl, hb⟩; have n0_ := Aside0.mk (blk_below (g := gb261) (o := .cells #[.slice A1_0 l1_0.length c1_0] 24 (0, 0)) (by (with_reducible repeat (first | refine blk_drewN ?_ _ | refine blk_drew ?_ | refine blk_alloc ?_ _)); exact BK261.out) hb); have n1_ := Aside0.mk (below_step (by repeat (first | (with_reducible first | exact HB.out | apply below_alloc | apply pw_below_drewN | apply below_drew1 | refine below_set ?_ GE261.out) | exact HB.out)) hb); clear BK261; clear HB; have BK261 := n0_; have HB := n1_; clear n0_ n1_; (try clear hb); (try clear hb2); (try clear hk); (try clear hi)) | (go_at_call 35; (with_reducible refine (turncockref15_Secs.calls a2 t264 _ A12.out).mono ?_); rintro e w' ⟨rfl, ⟨nd, rfl⟩⟩))
          go_meet
          case rel => exact ⟨_, ((t264 == 0)), (by first | rfl | (simp; done) | (simp [*]; done)), H', ⟨by first | omega | exact Nat.le_refl _⟩, ⟨by (with_reducible repeat (first | refine blk_drewN ?_ _ | refine blk_drew ?_ | refine blk_alloc ?_ _)); exact BK261.out⟩, ⟨by repeat (first | (with_reducible first | exact HB.out | apply below_alloc | apply pw_below_drewN | apply below_drew1 | refine below_set ?_ GE261.out) | exact HB.out)⟩⟩
        · replace c11 := Bool.eq_false_iff.mpr c11
          subst c11
          have H1 : (turncockref20_Make.j0 k a0 a2 a3 true l1_0) = some (r1, r2, r3) := by rw [if_neg (show ¬ (false = true) by decide)] at H; exact H
          clear H
          have H := H1
          clear H1
          have H' := Aside0.mk H
          clear H
          go_wp2_with (first | (go_at_call 55; (with_reducible refine (turncockref20_bar.calls k a0 false _ A8.out).mono ?_); rintro e w' ⟨rfl, ⟨nd, rfl⟩⟩; have hcz15_0 : w6.cell? ⟨gb261, 0, none⟩ = some (.slice A1_0 l1_0.length c1_0) := (blk_cell BK261.out 0).trans rfl; have hfz15_0 := blk_frozen BK261.out 0) | (go_at_call 17; (with_reducible refine (turncockref1_CheckDesc.calls k _ _ l1_0 false _ ?side1 ?side2 A10.out).mono ?_); (case side1 => repeat (first | exact (Kd.C_below HR1_0.out (by repeat (first | (with_reducible first | exact HB.out | apply below_alloc | apply pw_below_drewN | apply below_drew1 | refine below_set ?_ GE261.out) | exact HB.out))) | (with_reducible refine Kd.C_alloc ?_ _) | (with_reducible refine Kd.C_drewN ?_ _) | (with_reducible refine Kd.C_drew ?_))); (case side2 => exact HC1_0.out); rintro e w16 ⟨rfl, hb⟩; have n0_ := Aside0.mk (blk_below (g := gb261) (o := .cells #[.slice A1_0 l1_0.length c1_0] 24 (0, 0)) (by (with_reducible repeat (first | refine blk_drewN ?_ _ | refine blk_drew ?_ | refine blk_alloc ?_ _)); exact BK261.out) hb); have n1_ := Aside0.mk (below_step (by repeat (first | (with_reducible first | exact HB.out | apply below_alloc | apply pw_below_drewN | apply below_drew1 | refine below_set ?_ GE261.out) | exact HB.out)) hb); clear BK261; clear HB; have BK261 := n0_; have HB := n1_; clear n0_ n1_; (try clear hb); (try clear hb2); (try clear hk); (try clear hi)))
          go_meet
          case rel => exact ⟨_, (true), (by first | rfl | (simp; done) | (simp [*]; done)), H', ⟨by first | omega | exact Nat.le_refl _⟩, ⟨by (with_reducible repeat (first | refine blk_drewN ?_ _ | refine blk_drew ?_ | refine blk_alloc ?_ _)); exact BK261.out⟩, ⟨by repeat (first | (with_reducible first | exact HB.out | apply below_alloc | apply pw_below_drewN | apply below_drew1 | refine below_set ?_ GE261.out) | exact HB.out)⟩⟩
  case rest =>
    clear HC5
    try clear c1
    try clear p2
    try clear c3
    try clear c7
    try clear c7b0
    try clear c7b1
    try clear c9
    try clear c11
    try clear hcz13_0
    try clear hcz15_0
    try clear hfz13_0
    try clear hfz15_0
    obtain ⟨kq, x27_4, rfl, HA, HJ4, BK261, HB⟩ := hcut
    cases kq with
    | zero => exact absurd HA.out (by simp [turncockref20_Make.j0])
    | succ kj4 =>
      have H := HA.out
      clear HA
      simp only [turncockref20_Make.j0] at H
      by_cases c17 : x27_4 = true
      · subst c17
        have H1 : (some ((⟨#[]⟩ : ByteArray), 0, false)) = some (r1, r2, r3) := by rw [if_pos rfl] at H; exact H
        clear H
        have H := H1
        clear H1
        simp only [Option.some.injEq, Prod.mk.injEq] at H
        obtain ⟨rfl, rfl, rfl⟩ := H
        go_wp2
        go_ret3
        exact ⟨by first | rfl | (simp [errW_none, errW_some] <;> rfl) | (simp [*, errW_none, errW_some] <;> rfl), by repeat (first | (with_reducible first | exact HB.out | apply below_alloc | apply pw_below_drewN | apply below_drew1 | refine below_set ?_ GE261.out) | exact HB.out)⟩
      · replace c17 := Bool.eq_false_iff.mpr c17
        subst c17
        have H1 : (if a0.size + 1 ≤ 9223372036854775807 then ((turncockref1_DescText.f kj4 l1_0).bind fun t265 => (if a0.size + 1 + t265.size ≤ 9223372036854775807 then (if a0.size + 1 + t265.size + 1 ≤ 9223372036854775807 then ((turncockref15_Unit.f a2).bind fun t266 => (if a0.size + 1 + t265.size + 1 + t266.size ≤ 9223372036854775807 then (if a0.size + 1 + t265.size + 1 + t266.size + 1 ≤ 9223372036854775807 then ((turncockref15_Window.f a3 a2).bind fun t267 => ((turncockref1_Digits.f kj4 t267).bind fun t268 => (if a0.size + 1 + t265.size + 1 + t266.size + 1 + t268.size ≤ 9223372036854775807 then ((turncockref15_End.f a3 a2).bind fun t269 => (some ((((((a0 ++ (⟨#[124]⟩ : ByteArray)) ++ t265) ++ (⟨#[124]⟩ : ByteArray)) ++ t266) ++ (⟨#[124]⟩ : ByteArray)) ++ t268, t269, true))) else (none)))) else (none)) else (none))) else (none)) else (none))) else (none)) = some (r1, r2, r3) := by rw [if_neg (show ¬ (false = true) by decide)] at H; exact H
        clear H
        have H := H1
        clear H1
        by_cases c18 : a0.size + 1 ≤ 9223372036854775807
        · rw [if_pos c18] at H
          have c18b0 := eq_true c18
          have c18b1 : decide (a0.size + 1 ≤ 9223372036854775807) = true := decide_eq_true c18
          try have c18b2 : (9223372036854775807 < a0.size + 1) = False := eq_false (Nat.not_lt.2 c18)
          replace H := Option.bind_eq_some_iff.mp H
          obtain ⟨t265, A190, H⟩ := H
          replace H : (if a0.size + 1 + t265.size ≤ 9223372036854775807 then (if a0.size + 1 + t265.size + 1 ≤ 9223372036854775807 then ((turncockref15_Unit.f a2).bind fun t266 => (if a0.size + 1 + t265.size + 1 + t266.size ≤ 9223372036854775807 then (if a0.size + 1 + t265.size + 1 + t266.size + 1 ≤ 9223372036854775807 then ((turncockref15_Window.f a3 a2).bind fun t267 => ((turncockref1_Digits.f kj4 t267).bind fun t268 => (if a0.size + 1 + t265.size + 1 + t266.size + 1 + t268.size ≤ 9223372036854775807 then ((turncockref15_End.f a3 a2).bind fun t269 => (some ((((((a0 ++ (⟨#[124]⟩ : ByteArray)) ++ t265) ++ (⟨#[124]⟩ : ByteArray)) ++ t266) ++ (⟨#[124]⟩ : ByteArray)) ++ t268, t269, true))) else (none)))) else (none)) else (none))) else (none)) else (none)) = some (r1, r2, r3) := H
          have A19 := Aside0.mk A190
          clear A190
          by_cases c20 : a0.size + 1 + t265.size ≤ 9223372036854775807
          · rw [if_pos c20] at H
            have c20b0 := eq_true c20
            have c20b1 : decide (a0.size + 1 + t265.size ≤ 9223372036854775807) = true := decide_eq_true c20
            try have c20b2 : (9223372036854775807 < a0.size + 1 + t265.size) = False := eq_false (Nat.not_lt.2 c20)
            by_cases c21 : a0.size + 1 + t265.size + 1 ≤ 9223372036854775807
            · rw [if_pos c21] at H
              have c21b0 := eq_true c21
              have c21b1 : decide (a0.size + 1 + t265.size + 1 ≤ 9223372036854775807) = true := decide_eq_true c21
              try have c21b2 : (9223372036854775807 < a0.size + 1 + t265.size + 1) = False := eq_false (Nat.not_lt.2 c21)
              replace H := Option.bind_eq_some_iff.mp H
              obtain ⟨t266, A220, H⟩ := H
              replace H : (if a0.size + 1 + t265.size + 1 + t266.size ≤ 9223372036854775807 then (if a0.size + 1 + t265.size + 1 + t266.size + 1 ≤ 9223372036854775807 then ((turncockref15_Window.f a3 a2).bind fun t267 => ((turncockref1_Digits.f kj4 t267).bind fun t268 => (if a0.size + 1 + t265.size + 1 + t266.size + 1 + t268.size ≤ 9223372036854775807 then ((turncockref15_End.f a3 a2).bind fun t269 => (some ((((((a0 ++ (⟨#[124]⟩ : ByteArray)) ++ t265) ++ (⟨#[124]⟩ : ByteArray)) ++ t266) ++ (⟨#[124]⟩ : ByteArray)) ++ t268, t269, true))) else (none)))) else (none)) else (none)) = some (r1, r2, r3) := H
              have A22 := Aside0.mk A220
              clear A220
              by_cases c23 : a0.size + 1 + t265.size + 1 + t266.size ≤ 9223372036854775807
              · rw [if_pos c23] at H
                have c23b0 := eq_true c23
                have c23b1 : decide (a0.size + 1 + t265.size + 1 + t266.size ≤ 9223372036854775807) = true := decide_eq_true c23
                try have c23b2 : (9223372036854775807 < a0.size + 1 + t265.size + 1 + t266.size) = False := eq_false (Nat.not_lt.2 c23)
                by_cases c24 : a0.size + 1 + t265.size + 1 + t266.size + 1 ≤ 9223372036854775807
                · rw [if_pos c24] at H
                  have c24b0 := eq_true c24
                  have c24b1 : decide (a0.size + 1 + t265.size + 1 + t266.size + 1 ≤ 9223372036854775807) = true := decide_eq_true c24
                  try have c24b2 : (9223372036854775807 < a0.size + 1 + t265.size + 1 + t266.size + 1) = False := eq_false (Nat.not_lt.2 c24)
                  replace H := Option.bind_eq_some_iff.mp H
                  obtain ⟨t267, A250, H⟩ := H
                  replace H : ((turncockref1_Digits.f kj4 t267).bind fun t268 => (if a0.size + 1 + t265.size + 1 + t266.size + 1 + t268.size ≤ 9223372036854775807 then ((turncockref15_End.f a3 a2).bind fun t269 => (some ((((((a0 ++ (⟨#[124]⟩ : ByteArray)) ++ t265) ++ (⟨#[124]⟩ : ByteArray)) ++ t266) ++ (⟨#[124]⟩ : ByteArray)) ++ t268, t269, true))) else (none))) = some (r1, r2, r3) := H
                  have A25 := Aside0.mk A250
                  clear A250
                  replace H := Option.bind_eq_some_iff.mp H
                  obtain ⟨t268, A260, H⟩ := H
                  replace H : (if a0.size + 1 + t265.size + 1 + t266.size + 1 + t268.size ≤ 9223372036854775807 then ((turncockref15_End.f a3 a2).bind fun t269 => (some ((((((a0 ++ (⟨#[124]⟩ : ByteArray)) ++ t265) ++ (⟨#[124]⟩ : ByteArray)) ++ t266) ++ (⟨#[124]⟩ : ByteArray)) ++ t268, t269, true))) else (none)) = some (r1, r2, r3) := H
                  have A26 := Aside0.mk A260
                  clear A260
                  by_cases c27 : a0.size + 1 + t265.size + 1 + t266.size + 1 + t268.size ≤ 9223372036854775807
                  · rw [if_pos c27] at H
                    have c27b0 := eq_true c27
                    have c27b1 : decide (a0.size + 1 + t265.size + 1 + t266.size + 1 + t268.size ≤ 9223372036854775807) = true := decide_eq_true c27
                    try have c27b2 : (9223372036854775807 < a0.size + 1 + t265.size + 1 + t266.size + 1 + t268.size) = False := eq_false (Nat.not_lt.2 c27)
                    replace H := Option.bind_eq_some_iff.mp H
                    obtain ⟨t269, A280, H⟩ := H
                    replace H : (some ((((((a0 ++ (⟨#[124]⟩ : ByteArray)) ++ t265) ++ (⟨#[124]⟩ : ByteArray)) ++ t266) ++ (⟨#[124]⟩ : ByteArray)) ++ t268, t269, true)) = some (r1, r2, r3) := H
                    have A28 := Aside0.mk A280
                    clear A280
                    simp only [Option.some.injEq, Prod.mk.injEq] at H
                    obtain ⟨rfl, rfl, rfl⟩ := H
                    have hcz29_0 : wc.cell? ⟨gb261, 0, none⟩ = some (.slice A1_0 l1_0.length c1_0) := (blk_cell BK261.out 0).trans rfl
                    have hfz29_0 := blk_frozen BK261.out 0
                    go_wp2_with (first | ((with_reducible refine gate_callee (f := 18) rfl ?_); refine goesL_ (some 31) rfl rfl Tryd.func18 (by kernel_rfl) rfl #[.agg #[.slice A1_0 l1_0.length c1_0]] rfl (by (try simp only [List.map_toArray, List.map_cons, List.map_nil]); first | done | rfl | (simp only [List.length_drop, List.length_take]; rfl)) ?_; (with_reducible refine (turncockref1_DescText.calls kj4 _ _ l1_0 t265 _ ?side1 ?side2 A19.out).mono ?_); (case side1 => repeat (first | exact (Kd.C_below HR1_0.out HB.out) | (with_reducible refine Kd.C_alloc ?_ _) | (with_reducible refine Kd.C_drewN ?_ _) | (with_reducible refine Kd.C_drew ?_))); (case side2 => exact HC1_0.out); rintro e w30 ⟨rfl, hb⟩; refine ⟨_, rfl, ?_⟩; have n0_ := Aside0.mk (blk_below (g := gb261) (o := .cells #[.slice A1_0 l1_0.length c1_0] 24 (0, 0)) (by (with_reducible repeat (first | refine blk_drewN ?_ _ | refine blk_drew ?_ | refine blk_alloc ?_ _)); exact BK261.out) hb); have n1_ := Aside0.mk (below_step (by repeat (first | (with_reducible first | exact HB.out | apply below_alloc | apply pw_below_drewN | apply below_drew1 | refine below_set ?_ GE261.out) | exact HB.out)) hb); clear BK261; clear HB; have BK261 := n0_; have HB := n1_; clear n0_ n1_; (try clear hb); (try clear hb2); (try clear hk); (try clear hi)) | ((with_reducible refine gate_callee (f := 56) rfl ?_); refine goesL_ (some 35) rfl rfl Tryd.func56 (by kernel_rfl) rfl #[.int .i64 a2] rfl (by (try simp only [List.map_toArray, List.map_cons, List.map_nil]); first | done | rfl | (simp only [List.length_drop, List.length_take]; rfl)) ?_; (with_reducible refine (turncockref15_Unit.calls a2 t266 _ A22.out).mono ?_); rintro e w' ⟨rfl, ⟨nd, rfl⟩⟩; refine ⟨_, rfl, ?_⟩) | ((with_reducible refine gate_callee (f := 32) rfl ?_); refine goesL_ (some 40) rfl rfl Tryd.func32 (by kernel_rfl) rfl #[.int .i64 a3, .int .i64 a2] rfl (by (try simp only [List.map_toArray, List.map_cons, List.map_nil]); first | done | rfl | (simp only [List.length_drop, List.length_take]; rfl)) ?_; (with_reducible refine (turncockref15_Window.calls a3 a2 t267 _ A25.out).mono ?_); rintro e w' ⟨rfl, ⟨nd, rfl⟩⟩; refine ⟨_, rfl, ?_⟩) | ((with_reducible refine gate_callee (f := 57) rfl ?_); refine goesL_ (some 41) rfl rfl Tryd.func57 (by kernel_rfl) rfl #[.int .i64 t267] rfl (by (try simp only [List.map_toArray, List.map_cons, List.map_nil]); first | done | rfl | (simp only [List.length_drop, List.length_take]; rfl)) ?_; (with_reducible refine (turncockref1_Digits.calls kj4 t267 t268 _ A26.out).mono ?_); rintro e w31 ⟨rfl, hb⟩; refine ⟨_, rfl, ?_⟩; have n0_ := Aside0.mk (blk_below (g := gb261) (o := .cells #[.slice A1_0 l1_0.length c1_0] 24 (0, 0)) (by (with_reducible repeat (first | refine blk_drewN ?_ _ | refine blk_drew ?_ | refine blk_alloc ?_ _)); exact BK261.out) hb); have n1_ := Aside0.mk (below_step (by repeat (first | (with_reducible first | exact HB.out | apply below_alloc | apply pw_below_drewN | apply below_drew1 | refine below_set ?_ GE261.out) | exact HB.out)) hb); clear BK261; clear HB; have BK261 := n0_; have HB := n1_; clear n0_ n1_; (try clear hb); (try clear hb2); (try clear hk); (try clear hi)) | ((with_reducible refine gate_callee (f := 58) rfl ?_); refine goesL_ (some 46) rfl rfl Tryd.func58 (by kernel_rfl) rfl #[.int .i64 a3, .int .i64 a2] rfl (by (try simp only [List.map_toArray, List.map_cons, List.map_nil]); first | done | rfl | (simp only [List.length_drop, List.length_take]; rfl)) ?_; (with_reducible refine (turncockref15_End.calls a3 a2 t269 _ A28.out).mono ?_); rintro e w' ⟨rfl, ⟨nd, rfl⟩⟩; refine ⟨_, rfl, ?_⟩))
                    go_ret3
                    exact ⟨by first | rfl | (simp [errW_none, errW_some] <;> rfl) | (simp [*, errW_none, errW_some] <;> rfl), by repeat (first | (with_reducible first | exact HB.out | apply below_alloc | apply pw_below_drewN | apply below_drew1 | refine below_set ?_ GE261.out) | exact HB.out)⟩
                  · rw [if_neg c27] at H
                    exact absurd H (by simp)
                · rw [if_neg c24] at H
                  exact absurd H (by simp)
              · rw [if_neg c23] at H
                exact absurd H (by simp)
            · rw [if_neg c21] at H
              exact absurd H (by simp)
          · rw [if_neg c20] at H
            exact absurd H (by simp)
        · rw [if_neg c18] at H
          exact absurd H (by simp)

/-! ### turncocklaw25_KeyMakes: function 8 -/
mutual
def turncocklaw25_KeyMakes.j0 : Nat → ByteArray → Int → Int → Bool → List (S47) → Option (Bool)
  | 0, _, _, _, _, _ => none
  | k + 1, x0, x2, x3, x26, x271000 => if x26 = true then ((turncocklaw25_awake.f k).bind fun t272 => (some t272)) else ((key_Make.f k x0 x271000 x2 x3).bind fun bt273 => ((turncockref20_Make.f k x0 x271000 x2 x3).bind fun bt276 => (if bt273.1.toList = bt276.1.toList then (if bt273.2.1 = bt276.2.1 then (turncocklaw25_KeyMakes.j1 k x0 x2 x3 bt273.1 bt273.2.2 (bt273.2.2 != bt276.2.2) x271000) else (turncocklaw25_KeyMakes.j1 k x0 x2 x3 bt273.1 bt273.2.2 true x271000)) else (turncocklaw25_KeyMakes.j1 k x0 x2 x3 bt273.1 bt273.2.2 true x271000))))
def turncocklaw25_KeyMakes.j1 : Nat → ByteArray → Int → Int → ByteArray → Bool → Bool → List (S47) → Option (Bool)
  | 0, _, _, _, _, _, _, _ => none
  | k + 1, x0, x2, x3, x9, x11, x58, x271000 => if x58 = true then (some false) else (if x11 = true then ((key_Parse.f k x9).bind fun bt280 => (if bt280.2.2.2.2 = true then (if bt280.1.toList = x0.toList then ((turncockref1_SameDesc.f k bt280.2.1 x271000).bind fun t288 => (if t288 = true then (if bt280.2.2.1 = x2 then ((turncockref15_Window.f x3 x2).bind fun t289 => (if bt280.2.2.2.1 = t289 then ((turncocklaw25_awake.f k).bind fun t290 => (some t290)) else (some false))) else (some false)) else (some false))) else (some false)) else (some false))) else ((turncocklaw25_awake.f k).bind fun t279 => (some t279)))
end
def turncocklaw25_KeyMakes.f (k : Nat) (a0 : ByteArray) (l1_0 : List (S47)) (a2 : Int) (a3 : Int) : Option (Bool) := (turncocklaw25_heavy.f k l1_0).bind fun t271 => (if t271 = true then (turncocklaw25_KeyMakes.j0 k a0 a2 a3 true l1_0) else (turncocklaw25_KeyMakes.j0 k a0 a2 a3 (decide ((a0.size : Int) > 1000)) l1_0))
theorem turncocklaw25_KeyMakes.mono_l : ∀ k, (∀ y0 y1 y2 y3 y4, LeO (turncocklaw25_KeyMakes.j0 k y0 y1 y2 y3 y4) (turncocklaw25_KeyMakes.j0 (k + 1) y0 y1 y2 y3 y4)) ∧ (∀ y0 y1 y2 y3 y4 y5 y6, LeO (turncocklaw25_KeyMakes.j1 k y0 y1 y2 y3 y4 y5 y6) (turncocklaw25_KeyMakes.j1 (k + 1) y0 y1 y2 y3 y4 y5 y6))
  | 0 => ⟨fun _ _ _ _ _ r h => by simp [turncocklaw25_KeyMakes.j0] at h, fun _ _ _ _ _ _ _ r h => by simp [turncocklaw25_KeyMakes.j1] at h⟩
  | k + 1 => by
    obtain ⟨ih0, ih1⟩ := turncocklaw25_KeyMakes.mono_l k
    refine ⟨?_, ?_⟩
    · intro y0 y1 y2 y3 y4
      unfold turncocklaw25_KeyMakes.j0
      repeat' first
      | (with_reducible exact ih0 _ _ _ _ _)
      | (with_reducible exact ih1 _ _ _ _ _ _ _)
      | (with_reducible exact key_Make.mono _ _ _ _ _)
      | (with_reducible exact key_Parse.mono _ _)
      | (with_reducible exact turncocklaw25_awake.mono _)
      | (with_reducible exact turncocklaw25_heavy.mono _ _)
      | (with_reducible exact turncockref1_SameDesc.mono _ _ _)
      | (with_reducible exact turncockref20_Make.mono _ _ _ _ _)
      | (with_reducible exact LeO.refl _)
      | (with_reducible exact LeO.none _)
      | (with_reducible refine LeO.ite ?_ ?_)
      | (with_reducible refine LeO.bind ?_ (fun _ => ?_))
      | exact ih0 _ _ _ _ _
      | exact ih1 _ _ _ _ _ _ _
      | exact key_Make.mono _ _ _ _ _
      | exact key_Parse.mono _ _
      | exact turncocklaw25_awake.mono _
      | exact turncocklaw25_heavy.mono _ _
      | exact turncockref1_SameDesc.mono _ _ _
      | exact turncockref20_Make.mono _ _ _ _ _
      | exact LeO.none _
      | refine LeO.ite ?_ ?_
      | refine LeO.bind ?_ (fun _ => ?_)
    · intro y0 y1 y2 y3 y4 y5 y6
      unfold turncocklaw25_KeyMakes.j1
      repeat' first
      | (with_reducible exact ih0 _ _ _ _ _)
      | (with_reducible exact ih1 _ _ _ _ _ _ _)
      | (with_reducible exact key_Make.mono _ _ _ _ _)
      | (with_reducible exact key_Parse.mono _ _)
      | (with_reducible exact turncocklaw25_awake.mono _)
      | (with_reducible exact turncocklaw25_heavy.mono _ _)
      | (with_reducible exact turncockref1_SameDesc.mono _ _ _)
      | (with_reducible exact turncockref20_Make.mono _ _ _ _ _)
      | (with_reducible exact LeO.refl _)
      | (with_reducible exact LeO.none _)
      | (with_reducible refine LeO.ite ?_ ?_)
      | (with_reducible refine LeO.bind ?_ (fun _ => ?_))
      | exact ih0 _ _ _ _ _
      | exact ih1 _ _ _ _ _ _ _
      | exact key_Make.mono _ _ _ _ _
      | exact key_Parse.mono _ _
      | exact turncocklaw25_awake.mono _
      | exact turncocklaw25_heavy.mono _ _
      | exact turncockref1_SameDesc.mono _ _ _
      | exact turncockref20_Make.mono _ _ _ _ _
      | exact LeO.none _
      | refine LeO.ite ?_ ?_
      | refine LeO.bind ?_ (fun _ => ?_)
theorem turncocklaw25_KeyMakes.mono : ∀ a0 a1 a2 a3 k, LeO (turncocklaw25_KeyMakes.f k a0 a1 a2 a3) (turncocklaw25_KeyMakes.f (k + 1) a0 a1 a2 a3) := by
  intro a0 a1 a2 a3 k
  obtain ⟨ih0, ih1⟩ := turncocklaw25_KeyMakes.mono_l k
  unfold turncocklaw25_KeyMakes.f
  repeat' first
      | (with_reducible exact ih0 _ _ _ _ _)
      | (with_reducible exact ih1 _ _ _ _ _ _ _)
      | (with_reducible exact key_Make.mono _ _ _ _ _)
      | (with_reducible exact key_Parse.mono _ _)
      | (with_reducible exact turncocklaw25_awake.mono _)
      | (with_reducible exact turncocklaw25_heavy.mono _ _)
      | (with_reducible exact turncockref1_SameDesc.mono _ _ _)
      | (with_reducible exact turncockref20_Make.mono _ _ _ _ _)
      | (with_reducible exact LeO.refl _)
      | (with_reducible exact LeO.none _)
      | (with_reducible refine LeO.ite ?_ ?_)
      | (with_reducible refine LeO.bind ?_ (fun _ => ?_))
      | exact ih0 _ _ _ _ _
      | exact ih1 _ _ _ _ _ _ _
      | exact key_Make.mono _ _ _ _ _
      | exact key_Parse.mono _ _
      | exact turncocklaw25_awake.mono _
      | exact turncocklaw25_heavy.mono _ _
      | exact turncockref1_SameDesc.mono _ _ _
      | exact turncockref20_Make.mono _ _ _ _ _
      | exact LeO.none _
      | refine LeO.ite ?_ ?_
      | refine LeO.bind ?_ (fun _ => ?_)
set_option maxHeartbeats 8000000 in
set_option maxRecDepth 100000 in
theorem turncocklaw25_KeyMakes.calls (k : Nat) (a0 : ByteArray) (A1_0 : Option Addr) (c1_0 : Nat) (l1_0 : List (S47)) (a2 : Int) (a3 : Int) (r : Bool) (w : World) (hr1_0 : Kd.C k47 w A1_0 l1_0.length l1_0) (hc1_0 : l1_0.length ≤ c1_0) (h : turncocklaw25_KeyMakes.f k a0 l1_0 a2 a3 = some r) (hr_ : r = true) :
    Calls Tryd.prog 8 #[.string a0, .agg #[.slice A1_0 l1_0.length c1_0], .int .i64 a2, .int .i64 a3] w fun e w' => e = .returned (.bool r) ∧ Below w.heap.size w w' := by
  have hu24 := Tryd.underlying24
  have HR1_0 := Aside0.mk hr1_0
  have HC1_0 := Aside0.mk hc1_0
  clear hr1_0 hc1_0
  have HB := Aside0.mk (Below.refl w.heap.size w)
  have H : ((turncocklaw25_heavy.f k l1_0).bind fun t271 => (if t271 = true then (turncocklaw25_KeyMakes.j0 k a0 a2 a3 true l1_0) else (turncocklaw25_KeyMakes.j0 k a0 a2 a3 (decide ((a0.size : Int) > 1000)) l1_0))) = some r := h
  clear h
  have HC5 := Aside0.mk H
  clear H
  go_enter Tryd.func8, Tryd.ntmps8
  go_upto_region 1 with (first | ((with_reducible refine gate_dst (N := 5) rfl ?_); (try (refine gate_guard (by rfl) ?_; dsimp only)); refine box_event ?hg (N := 5) ?hd (cs := #[.slice A1_0 l1_0.length c1_0]) (t := 24) ?hr ?_; (case hd => rfl); (case hg => rfl); (case hr => first | (go_simp; done) | (go_simp; rfl)); intro gb270 hg w6 hbox hb; have n0_ := Aside0.mk (below_step (by repeat (first | (with_reducible first | exact HB.out | apply below_alloc | apply pw_below_drewN | apply below_drew1) | exact HB.out)) hb); have n1_ := Aside0.mk (hbox); have n2_ := Aside0.mk ((by rw [hg]; exact (below_size (by repeat (first | (with_reducible first | exact HB.out | apply below_alloc | apply pw_below_drewN | apply below_drew1) | exact HB.out))) : w.heap.size ≤ gb270)); have n3_ := Aside0.mk ((by rw [hg]; exact (below_size (by repeat (first | (with_reducible first | exact HB.out | apply below_alloc | apply pw_below_drewN | apply below_drew1) | exact HB.out))) : w.heap.size ≤ gb270)); clear HB; have HB := n0_; have BK270 := n1_; have GW270 := n2_; have GE270 := n3_; clear n0_ n1_ n2_ n3_; clear hb hbox hg))
  (try simp only [Act.put, List.setIfInBounds_toArray, List.set_cons_zero, List.set_cons_succ])
  go_cut [26] (fun v26 wc => ∃ (kq : Nat) (x26_4 : Bool), v26 = .bool x26_4 ∧ Aside0 (turncocklaw25_KeyMakes.j0 kq a0 a2 a3 x26_4 l1_0 = some r) ∧ Aside0 (kq ≤ k) ∧ Aside0 (wc.heap[gb270]? = some (.cells #[(.slice A1_0 l1_0.length c1_0)] 24 (0, 0))) ∧ Aside0 (Below w.heap.size w wc))
  case first =>
    have H := HC5.out
    clear HC5
    replace H := Option.bind_eq_some_iff.mp H
    obtain ⟨t271, A70, H⟩ := H
    replace H : (if t271 = true then (turncocklaw25_KeyMakes.j0 k a0 a2 a3 true l1_0) else (turncocklaw25_KeyMakes.j0 k a0 a2 a3 (decide ((a0.size : Int) > 1000)) l1_0)) = some r := H
    have A7 := Aside0.mk A70
    clear A70
    by_cases c8 : t271 = true
    · subst c8
      have H1 : (turncocklaw25_KeyMakes.j0 k a0 a2 a3 true l1_0) = some r := by rw [if_pos rfl] at H; exact H
      clear H
      have H := H1
      clear H1
      have H' := Aside0.mk H
      clear H
      have hcz9_0 : w6.cell? ⟨gb270, 0, none⟩ = some (.slice A1_0 l1_0.length c1_0) := (blk_cell BK270.out 0).trans rfl
      have hfz9_0 := blk_frozen BK270.out 0
      go_wp2_with (first | ((with_reducible refine gate_callee (f := 27) rfl ?_); refine goesL_ (some 21) rfl rfl Tryd.func27 (by kernel_rfl) rfl #[.agg #[.slice A1_0 l1_0.length c1_0]] rfl (by (try simp only [List.map_toArray, List.map_cons, List.map_nil]); first | done | rfl | (simp only [List.length_drop, List.length_take]; rfl)) ?_; (with_reducible refine (turncocklaw25_heavy.calls k _ _ l1_0 true _ ?side1 ?side2 A7.out).mono ?_); (case side1 => repeat (first | exact (Kd.C_below HR1_0.out HB.out) | (with_reducible refine Kd.C_alloc ?_ _) | (with_reducible refine Kd.C_drewN ?_ _) | (with_reducible refine Kd.C_drew ?_))); (case side2 => exact HC1_0.out); rintro e w10 ⟨rfl, hb⟩; refine ⟨_, rfl, ?_⟩; have n0_ := Aside0.mk (blk_below (g := gb270) (o := .cells #[.slice A1_0 l1_0.length c1_0] 24 (0, 0)) (by (with_reducible repeat (first | refine blk_drewN ?_ _ | refine blk_drew ?_ | refine blk_alloc ?_ _)); exact BK270.out) hb); have n1_ := Aside0.mk (below_step (by repeat (first | (with_reducible first | exact HB.out | apply below_alloc | apply pw_below_drewN | apply below_drew1 | refine below_set ?_ GE270.out) | exact HB.out)) hb); clear BK270; clear HB; have BK270 := n0_; have HB := n1_; clear n0_ n1_; (try clear hb); (try clear hb2); (try clear hk); (try clear hi)))
      go_meet
      case rel => exact ⟨_, (true), (by first | rfl | (simp; done) | (simp [*]; done)), H', ⟨by first | omega | exact Nat.le_refl _⟩, ⟨by (with_reducible repeat (first | refine blk_drewN ?_ _ | refine blk_drew ?_ | refine blk_alloc ?_ _)); exact BK270.out⟩, ⟨by repeat (first | (with_reducible first | exact HB.out | apply below_alloc | apply pw_below_drewN | apply below_drew1 | refine below_set ?_ GE270.out) | exact HB.out)⟩⟩
    · replace c8 := Bool.eq_false_iff.mpr c8
      subst c8
      have H1 : (turncocklaw25_KeyMakes.j0 k a0 a2 a3 (decide ((a0.size : Int) > 1000)) l1_0) = some r := by rw [if_neg (show ¬ (false = true) by decide)] at H; exact H
      clear H
      have H := H1
      clear H1
      have H' := Aside0.mk H
      clear H
      have hcz11_0 : w6.cell? ⟨gb270, 0, none⟩ = some (.slice A1_0 l1_0.length c1_0) := (blk_cell BK270.out 0).trans rfl
      have hfz11_0 := blk_frozen BK270.out 0
      go_wp2_with (first | ((with_reducible refine gate_callee (f := 27) rfl ?_); refine goesL_ (some 21) rfl rfl Tryd.func27 (by kernel_rfl) rfl #[.agg #[.slice A1_0 l1_0.length c1_0]] rfl (by (try simp only [List.map_toArray, List.map_cons, List.map_nil]); first | done | rfl | (simp only [List.length_drop, List.length_take]; rfl)) ?_; (with_reducible refine (turncocklaw25_heavy.calls k _ _ l1_0 false _ ?side1 ?side2 A7.out).mono ?_); (case side1 => repeat (first | exact (Kd.C_below HR1_0.out HB.out) | (with_reducible refine Kd.C_alloc ?_ _) | (with_reducible refine Kd.C_drewN ?_ _) | (with_reducible refine Kd.C_drew ?_))); (case side2 => exact HC1_0.out); rintro e w12 ⟨rfl, hb⟩; refine ⟨_, rfl, ?_⟩; have n0_ := Aside0.mk (blk_below (g := gb270) (o := .cells #[.slice A1_0 l1_0.length c1_0] 24 (0, 0)) (by (with_reducible repeat (first | refine blk_drewN ?_ _ | refine blk_drew ?_ | refine blk_alloc ?_ _)); exact BK270.out) hb); have n1_ := Aside0.mk (below_step (by repeat (first | (with_reducible first | exact HB.out | apply below_alloc | apply pw_below_drewN | apply below_drew1 | refine below_set ?_ GE270.out) | exact HB.out)) hb); clear BK270; clear HB; have BK270 := n0_; have HB := n1_; clear n0_ n1_; (try clear hb); (try clear hb2); (try clear hk); (try clear hi)))
      go_meet
      case rel => exact ⟨_, (decide ((a0.size : Int) > 1000)), (by first | rfl | (simp; done) | (simp [*]; done)), H', ⟨by first | omega | exact Nat.le_refl _⟩, ⟨by (with_reducible repeat (first | refine blk_drewN ?_ _ | refine blk_drew ?_ | refine blk_alloc ?_ _)); exact BK270.out⟩, ⟨by repeat (first | (with_reducible first | exact HB.out | apply below_alloc | apply pw_below_drewN | apply below_drew1 | refine below_set ?_ GE270.out) | exact HB.out)⟩⟩
  case rest =>
    clear HC5
    try clear c1
    try clear c2
    try clear p2
    try clear c8
    try clear hcz11_0
    try clear hcz9_0
    try clear hfz11_0
    try clear hfz9_0
    obtain ⟨kq, x26_4, rfl, HA, HJ4, BK270, HB⟩ := hcut
    cases kq with
    | zero => exact absurd HA.out (by simp [turncocklaw25_KeyMakes.j0])
    | succ kj4 =>
      have H := HA.out
      clear HA
      simp only [turncocklaw25_KeyMakes.j0] at H
      by_cases c13 : x26_4 = true
      · subst c13
        have H1 : ((turncocklaw25_awake.f kj4).bind fun t272 => (some t272)) = some r := by rw [if_pos rfl] at H; exact H
        clear H
        have H := H1
        clear H1
        replace H := Option.bind_eq_some_iff.mp H
        obtain ⟨t272, A140, H⟩ := H
        replace H : (some t272) = some r := H
        have A14 := Aside0.mk A140
        clear A140
        first
          | exact absurd ((Option.some.inj H).trans hr_) (by decide)
          | (obtain rfl := Option.some.inj H
             clear hr_
             go_wp2_with (first | ((with_reducible refine gate_callee (f := 28) rfl ?_); refine goesL_ (some 27) rfl rfl Tryd.func28 (by kernel_rfl) rfl #[] rfl (by (try simp only [List.map_toArray, List.map_cons, List.map_nil]); first | done | rfl | (simp only [List.length_drop, List.length_take]; rfl)) ?_; (with_reducible refine (turncocklaw25_awake.calls kj4  t272 _ A14.out).mono ?_); rintro e w15 ⟨rfl, hb⟩; refine ⟨_, rfl, ?_⟩; have n0_ := Aside0.mk (blk_below (g := gb270) (o := .cells #[.slice A1_0 l1_0.length c1_0] 24 (0, 0)) (by (with_reducible repeat (first | refine blk_drewN ?_ _ | refine blk_drew ?_ | refine blk_alloc ?_ _)); exact BK270.out) hb); have n1_ := Aside0.mk (below_step (by repeat (first | (with_reducible first | exact HB.out | apply below_alloc | apply pw_below_drewN | apply below_drew1 | refine below_set ?_ GE270.out) | exact HB.out)) hb); clear BK270; clear HB; have BK270 := n0_; have HB := n1_; clear n0_ n1_; (try clear hb); (try clear hb2); (try clear hk); (try clear hi)))
             go_ret
             exact ⟨by first | rfl | (simp [errW_none, errW_some] <;> rfl) | (simp [*, errW_none, errW_some] <;> rfl), by repeat (first | (with_reducible first | exact HB.out | apply below_alloc | apply pw_below_drewN | apply below_drew1 | refine below_set ?_ GE270.out) | exact HB.out)⟩)
      · replace c13 := Bool.eq_false_iff.mpr c13
        subst c13
        have H1 : ((key_Make.f kj4 a0 l1_0 a2 a3).bind fun bt273 => ((turncockref20_Make.f kj4 a0 l1_0 a2 a3).bind fun bt276 => (if bt273.1.toList = bt276.1.toList then (if bt273.2.1 = bt276.2.1 then (turncocklaw25_KeyMakes.j1 kj4 a0 a2 a3 bt273.1 bt273.2.2 (bt273.2.2 != bt276.2.2) l1_0) else (turncocklaw25_KeyMakes.j1 kj4 a0 a2 a3 bt273.1 bt273.2.2 true l1_0)) else (turncocklaw25_KeyMakes.j1 kj4 a0 a2 a3 bt273.1 bt273.2.2 true l1_0)))) = some r := by rw [if_neg (show ¬ (false = true) by decide)] at H; exact H
        clear H
        have H := H1
        clear H1
        replace H := Option.bind_eq_some_iff.mp H
        obtain ⟨⟨t273, t274, t275⟩, A160, H⟩ := H
        replace H : ((turncockref20_Make.f kj4 a0 l1_0 a2 a3).bind fun bt276 => (if t273.toList = bt276.1.toList then (if t274 = bt276.2.1 then (turncocklaw25_KeyMakes.j1 kj4 a0 a2 a3 t273 t275 (t275 != bt276.2.2) l1_0) else (turncocklaw25_KeyMakes.j1 kj4 a0 a2 a3 t273 t275 true l1_0)) else (turncocklaw25_KeyMakes.j1 kj4 a0 a2 a3 t273 t275 true l1_0))) = some r := H
        have A16 := Aside0.mk A160
        clear A160
        replace H := Option.bind_eq_some_iff.mp H
        obtain ⟨⟨t276, t277, t278⟩, A170, H⟩ := H
        replace H : (if t273.toList = t276.toList then (if t274 = t277 then (turncocklaw25_KeyMakes.j1 kj4 a0 a2 a3 t273 t275 (t275 != t278) l1_0) else (turncocklaw25_KeyMakes.j1 kj4 a0 a2 a3 t273 t275 true l1_0)) else (turncocklaw25_KeyMakes.j1 kj4 a0 a2 a3 t273 t275 true l1_0)) = some r := H
        have A17 := Aside0.mk A170
        clear A170
        have HC18 := Aside0.mk H
        clear H
        have hcz19_0 : wc.cell? ⟨gb270, 0, none⟩ = some (.slice A1_0 l1_0.length c1_0) := (blk_cell BK270.out 0).trans rfl
        have hfz19_0 := blk_frozen BK270.out 0
        go_upto_region 5 with (first | ((with_reducible refine gate_callee (f := 29) rfl ?_); refine goesL_ (some 33) rfl rfl Tryd.func29 (by kernel_rfl) rfl #[.string a0, .agg #[.slice A1_0 l1_0.length c1_0], .int .i64 a2, .int .i64 a3] rfl (by (try simp only [List.map_toArray, List.map_cons, List.map_nil]); first | done | rfl | (simp only [List.length_drop, List.length_take]; rfl)) ?_; (with_reducible refine (key_Make.calls kj4 a0 _ _ l1_0 a2 a3 t273 t274 t275 _ ?side1 ?side2 A16.out).mono ?_); (case side1 => repeat (first | exact (Kd.C_below HR1_0.out HB.out) | (with_reducible refine Kd.C_alloc ?_ _) | (with_reducible refine Kd.C_drewN ?_ _) | (with_reducible refine Kd.C_drew ?_))); (case side2 => exact HC1_0.out); rintro e w20 ⟨rfl, hb⟩; refine ⟨_, rfl, ?_⟩; have n0_ := Aside0.mk (blk_below (g := gb270) (o := .cells #[.slice A1_0 l1_0.length c1_0] 24 (0, 0)) (by (with_reducible repeat (first | refine blk_drewN ?_ _ | refine blk_drew ?_ | refine blk_alloc ?_ _)); exact BK270.out) hb); have n1_ := Aside0.mk (below_step (by repeat (first | (with_reducible first | exact HB.out | apply below_alloc | apply pw_below_drewN | apply below_drew1 | refine below_set ?_ GE270.out) | exact HB.out)) hb); clear BK270; clear HB; have BK270 := n0_; have HB := n1_; clear n0_ n1_; (try clear hb); (try clear hb2); (try clear hk); (try clear hi); have hcz21_0 : w20.cell? ⟨gb270, 0, none⟩ = some (.slice A1_0 l1_0.length c1_0) := (blk_cell BK270.out 0).trans rfl; have hfz21_0 := blk_frozen BK270.out 0) | ((with_reducible refine gate_callee (f := 30) rfl ?_); refine goesL_ (some 42) rfl rfl Tryd.func30 (by kernel_rfl) rfl #[.string a0, .agg #[.slice A1_0 l1_0.length c1_0], .int .i64 a2, .int .i64 a3] rfl (by (try simp only [List.map_toArray, List.map_cons, List.map_nil]); first | done | rfl | (simp only [List.length_drop, List.length_take]; rfl)) ?_; (with_reducible refine (turncockref20_Make.calls kj4 a0 _ _ l1_0 a2 a3 t276 t277 t278 _ ?side1 ?side2 A17.out).mono ?_); (case side1 => repeat (first | exact (Kd.C_below HR1_0.out HB.out) | (with_reducible refine Kd.C_alloc ?_ _) | (with_reducible refine Kd.C_drewN ?_ _) | (with_reducible refine Kd.C_drew ?_))); (case side2 => exact HC1_0.out); rintro e w22 ⟨rfl, hb⟩; refine ⟨_, rfl, ?_⟩; have n0_ := Aside0.mk (blk_below (g := gb270) (o := .cells #[.slice A1_0 l1_0.length c1_0] 24 (0, 0)) (by (with_reducible repeat (first | refine blk_drewN ?_ _ | refine blk_drew ?_ | refine blk_alloc ?_ _)); exact BK270.out) hb); have n1_ := Aside0.mk (below_step (by repeat (first | (with_reducible first | exact HB.out | apply below_alloc | apply pw_below_drewN | apply below_drew1 | refine below_set ?_ GE270.out) | exact HB.out)) hb); clear BK270; clear HB; have BK270 := n0_; have HB := n1_; clear n0_ n1_; (try clear hb); (try clear hb2); (try clear hk); (try clear hi)))
        (try simp only [Act.put, List.setIfInBounds_toArray, List.set_cons_zero, List.set_cons_succ])
        go_cut [58] (fun v58 wc => ∃ (kq : Nat) (x58_17 : Bool), v58 = .bool x58_17 ∧ Aside0 (turncocklaw25_KeyMakes.j1 kq a0 a2 a3 t273 t275 x58_17 l1_0 = some r) ∧ Aside0 (kq ≤ kj4) ∧ Aside0 (wc.heap[gb270]? = some (.cells #[(.slice A1_0 l1_0.length c1_0)] 24 (0, 0))) ∧ Aside0 (Below w.heap.size w wc))
        case first =>
          have H := HC18.out
          clear HC18
          by_cases c23 : t273.toList = t276.toList
          · rw [if_pos c23] at H
            have c23b0 : (t273.toList == t276.toList) = true := beq_iff_eq.mpr c23
            have c23b1 : (t273.toList != t276.toList) = false := bne_eq_false_iff_eq.mpr c23
            clear c23
            (first | rw [c23b0] | (simp only [i64_w, i32_w]; rw [c23b0]) | skip)
            by_cases c24 : t274 = t277
            · rw [if_pos c24] at H
              have c24b0 : (t274 == t277) = true := beq_iff_eq.mpr c24
              have c24b1 : (t274 != t277) = false := bne_eq_false_iff_eq.mpr c24
              clear c24
              have H' := Aside0.mk H
              clear H
              go_wp2
              go_meet
              case rel => exact ⟨_, ((t275 != t278)), (by first | rfl | (simp; done) | (simp [*]; done)), H', ⟨by have := HJ4.out; first | omega | exact Nat.le_refl _⟩, ⟨by (with_reducible repeat (first | refine blk_drewN ?_ _ | refine blk_drew ?_ | refine blk_alloc ?_ _)); exact BK270.out⟩, ⟨by repeat (first | (with_reducible first | exact HB.out | apply below_alloc | apply pw_below_drewN | apply below_drew1 | refine below_set ?_ GE270.out) | exact HB.out)⟩⟩
            · rw [if_neg c24] at H
              have c24b0 : (t274 == t277) = false := beq_eq_false_iff_ne.mpr c24
              have c24b1 : (t274 != t277) = true := bne_iff_ne.mpr c24
              have H' := Aside0.mk H
              clear H
              go_wp2
              go_meet
              case rel => exact ⟨_, (true), (by first | rfl | (simp; done) | (simp [*]; done)), H', ⟨by have := HJ4.out; first | omega | exact Nat.le_refl _⟩, ⟨by (with_reducible repeat (first | refine blk_drewN ?_ _ | refine blk_drew ?_ | refine blk_alloc ?_ _)); exact BK270.out⟩, ⟨by repeat (first | (with_reducible first | exact HB.out | apply below_alloc | apply pw_below_drewN | apply below_drew1 | refine below_set ?_ GE270.out) | exact HB.out)⟩⟩
          · rw [if_neg c23] at H
            have c23b0 : (t273.toList == t276.toList) = false := beq_eq_false_iff_ne.mpr c23
            have c23b1 : (t273.toList != t276.toList) = true := bne_iff_ne.mpr c23
            (first | rw [c23b0] | (simp only [i64_w, i32_w]; rw [c23b0]) | skip)
            have H' := Aside0.mk H
            clear H
            go_wp2
            go_meet
            case rel => exact ⟨_, (true), (by first | rfl | (simp; done) | (simp [*]; done)), H', ⟨by have := HJ4.out; first | omega | exact Nat.le_refl _⟩, ⟨by (with_reducible repeat (first | refine blk_drewN ?_ _ | refine blk_drew ?_ | refine blk_alloc ?_ _)); exact BK270.out⟩, ⟨by repeat (first | (with_reducible first | exact HB.out | apply below_alloc | apply pw_below_drewN | apply below_drew1 | refine below_set ?_ GE270.out) | exact HB.out)⟩⟩
        case rest =>
          clear HC18
          try clear c1
          try clear c2
          try clear p2
          try clear c3
          try clear c8
          try clear c13
          try clear c23
          try clear c23b0
          try clear c23b1
          try clear c24
          try clear c24b0
          try clear c24b1
          try clear hcz11_0
          try clear hcz19_0
          try clear hcz21_0
          try clear hcz9_0
          try clear hfz11_0
          try clear hfz19_0
          try clear hfz21_0
          try clear hfz9_0
          try clear p2
          obtain ⟨kq, x58_17, rfl, HA, HJ17, BK270, HB⟩ := hcut
          cases kq with
          | zero => exact absurd HA.out (by simp [turncocklaw25_KeyMakes.j1])
          | succ kj17 =>
            have H := HA.out
            clear HA
            simp only [turncocklaw25_KeyMakes.j1] at H
            by_cases c25 : x58_17 = true
            · subst c25
              have H1 : (some false) = some r := by rw [if_pos rfl] at H; exact H
              clear H
              have H := H1
              clear H1
              exact absurd ((Option.some.inj H).trans hr_) (by decide)
            · replace c25 := Bool.eq_false_iff.mpr c25
              subst c25
              have H1 : (if t275 = true then ((key_Parse.f kj17 t273).bind fun bt280 => (if bt280.2.2.2.2 = true then (if bt280.1.toList = a0.toList then ((turncockref1_SameDesc.f kj17 bt280.2.1 l1_0).bind fun t288 => (if t288 = true then (if bt280.2.2.1 = a2 then ((turncockref15_Window.f a3 a2).bind fun t289 => (if bt280.2.2.2.1 = t289 then ((turncocklaw25_awake.f kj17).bind fun t290 => (some t290)) else (some false))) else (some false)) else (some false))) else (some false)) else (some false))) else ((turncocklaw25_awake.f kj17).bind fun t279 => (some t279))) = some r := by rw [if_neg (show ¬ (false = true) by decide)] at H; exact H
              clear H
              have H := H1
              clear H1
              by_cases c26 : t275 = true
              · subst c26
                have H1 : ((key_Parse.f kj17 t273).bind fun bt280 => (if bt280.2.2.2.2 = true then (if bt280.1.toList = a0.toList then ((turncockref1_SameDesc.f kj17 bt280.2.1 l1_0).bind fun t288 => (if t288 = true then (if bt280.2.2.1 = a2 then ((turncockref15_Window.f a3 a2).bind fun t289 => (if bt280.2.2.2.1 = t289 then ((turncocklaw25_awake.f kj17).bind fun t290 => (some t290)) else (some false))) else (some false)) else (some false))) else (some false)) else (some false))) = some r := by rw [if_pos rfl] at H; exact H
                clear H
                have H := H1
                clear H1
                replace H := Option.bind_eq_some_iff.mp H
                obtain ⟨⟨t280, t281, t284, t285, t286⟩, A270, H⟩ := H
                replace H : (if t286 = true then (if t280.toList = a0.toList then ((turncockref1_SameDesc.f kj17 t281 l1_0).bind fun t288 => (if t288 = true then (if t284 = a2 then ((turncockref15_Window.f a3 a2).bind fun t289 => (if t285 = t289 then ((turncocklaw25_awake.f kj17).bind fun t290 => (some t290)) else (some false))) else (some false)) else (some false))) else (some false)) else (some false)) = some r := H
                have A27 := Aside0.mk A270
                clear A270
                by_cases c28 : t286 = true
                · subst c28
                  have H1 : (if t280.toList = a0.toList then ((turncockref1_SameDesc.f kj17 t281 l1_0).bind fun t288 => (if t288 = true then (if t284 = a2 then ((turncockref15_Window.f a3 a2).bind fun t289 => (if t285 = t289 then ((turncocklaw25_awake.f kj17).bind fun t290 => (some t290)) else (some false))) else (some false)) else (some false))) else (some false)) = some r := by rw [if_pos rfl] at H; exact H
                  clear H
                  have H := H1
                  clear H1
                  by_cases c29 : t280.toList = a0.toList
                  · rw [if_pos c29] at H
                    have c29b0 : (t280.toList == a0.toList) = true := beq_iff_eq.mpr c29
                    have c29b1 : (t280.toList != a0.toList) = false := bne_eq_false_iff_eq.mpr c29
                    clear c29
                    replace H := Option.bind_eq_some_iff.mp H
                    obtain ⟨t288, A300, H⟩ := H
                    replace H : (if t288 = true then (if t284 = a2 then ((turncockref15_Window.f a3 a2).bind fun t289 => (if t285 = t289 then ((turncocklaw25_awake.f kj17).bind fun t290 => (some t290)) else (some false))) else (some false)) else (some false)) = some r := H
                    have A30 := Aside0.mk A300
                    clear A300
                    by_cases c31 : t288 = true
                    · subst c31
                      have H1 : (if t284 = a2 then ((turncockref15_Window.f a3 a2).bind fun t289 => (if t285 = t289 then ((turncocklaw25_awake.f kj17).bind fun t290 => (some t290)) else (some false))) else (some false)) = some r := by rw [if_pos rfl] at H; exact H
                      clear H
                      have H := H1
                      clear H1
                      by_cases c32 : t284 = a2
                      · rw [if_pos c32] at H
                        have c32b0 : (t284 == a2) = true := beq_iff_eq.mpr c32
                        have c32b1 : (t284 != a2) = false := bne_eq_false_iff_eq.mpr c32
                        clear c32
                        replace H := Option.bind_eq_some_iff.mp H
                        obtain ⟨t289, A330, H⟩ := H
                        replace H : (if t285 = t289 then ((turncocklaw25_awake.f kj17).bind fun t290 => (some t290)) else (some false)) = some r := H
                        have A33 := Aside0.mk A330
                        clear A330
                        by_cases c34 : t285 = t289
                        · rw [if_pos c34] at H
                          have c34b0 : (t285 == t289) = true := beq_iff_eq.mpr c34
                          have c34b1 : (t285 != t289) = false := bne_eq_false_iff_eq.mpr c34
                          clear c34
                          replace H := Option.bind_eq_some_iff.mp H
                          obtain ⟨t290, A350, H⟩ := H
                          replace H : (some t290) = some r := H
                          have A35 := Aside0.mk A350
                          clear A350
                          first
                            | exact absurd ((Option.some.inj H).trans hr_) (by decide)
                            | (obtain rfl := Option.some.inj H
                               clear hr_
                               go_wp2_with (first | ((with_reducible refine gate_callee (f := 31) rfl ?_); refine goesL_ (some 64) rfl rfl Tryd.func31 (by kernel_rfl) rfl #[.string t273] rfl (by (try simp only [List.map_toArray, List.map_cons, List.map_nil]); first | done | rfl | (simp only [List.length_drop, List.length_take]; rfl)) ?_; (with_reducible refine (key_Parse.calls kj17 t273 t280 t281 t284 t285 true _ A27.out).mono ?_); rintro e w36 ⟨v282, rfl, ho0, hb⟩; refine ⟨_, rfl, ?_⟩; have n0_ := Aside0.mk (Kd.R_lower ho0 (below_size (by repeat (first | (with_reducible first | exact HB.out | apply below_alloc | apply pw_below_drewN | apply below_drew1 | refine below_set ?_ GE270.out) | exact HB.out)))); have n1_ := Aside0.mk (blk_below (g := gb270) (o := .cells #[.slice A1_0 l1_0.length c1_0] 24 (0, 0)) (by (with_reducible repeat (first | refine blk_drewN ?_ _ | refine blk_drew ?_ | refine blk_alloc ?_ _)); exact BK270.out) hb); have n2_ := Aside0.mk (below_step (by repeat (first | (with_reducible first | exact HB.out | apply below_alloc | apply pw_below_drewN | apply below_drew1 | refine below_set ?_ GE270.out) | exact HB.out)) hb); clear BK270; clear HB; have HO283 := n0_; have BK270 := n1_; have HB := n2_; clear n0_ n1_ n2_; (try clear hb); (try clear hb2); (try clear hk); (try clear hi); (try clear ho0)) | ((with_reducible refine gate_dst (N := 16) rfl ?_); (try (refine gate_guard (by rfl) ?_; dsimp only)); refine box_event ?hg (N := 16) ?hd (cs := #[.slice none 0 0]) (t := 24) ?hr ?_; (case hd => rfl); (case hg => rfl); (case hr => first | (go_simp; done) | (go_simp; rfl)); intro gb287 hg w37 hbox hb; have n0_ := Aside0.mk (Kd.R_below (by (with_reducible repeat (first | apply Kd.R_alloc | apply Kd.R_drewN | apply Kd.R_drew)); exact HO283.out) hb); have n1_ := Aside0.mk (blk_below (g := gb270) (o := .cells #[.slice A1_0 l1_0.length c1_0] 24 (0, 0)) (by (with_reducible repeat (first | refine blk_drewN ?_ _ | refine blk_drew ?_ | refine blk_alloc ?_ _)); exact BK270.out) hb); have n2_ := Aside0.mk (below_step (by repeat (first | (with_reducible first | exact HB.out | apply below_alloc | apply pw_below_drewN | apply below_drew1 | refine below_set ?_ GE270.out) | exact HB.out)) hb); have n3_ := Aside0.mk (hbox); have n4_ := Aside0.mk ((by rw [hg]; exact (below_size (by repeat (first | (with_reducible first | exact HB.out | apply below_alloc | apply pw_below_drewN | apply below_drew1 | refine below_set ?_ GE270.out) | exact HB.out))) : w.heap.size ≤ gb287)); have n5_ := Aside0.mk ((by rw [hg]; exact (below_size (by repeat (first | (with_reducible first | exact HB.out | apply below_alloc | apply pw_below_drewN | apply below_drew1 | refine below_set ?_ GE270.out) | exact HB.out))) : w.heap.size ≤ gb287)); have n6_ := Aside0.mk ((by rw [hg]; exact Nat.ne_of_lt (blk_lt (g := gb270) (o := .cells #[.slice A1_0 l1_0.length c1_0] 24 (0, 0)) (by (with_reducible repeat (first | refine blk_drewN ?_ _ | refine blk_drew ?_ | refine blk_alloc ?_ _)); exact BK270.out)) : gb270 ≠ gb287)); have n7_ := Aside0.mk ((by rw [hg]; exact Nat.ne_of_gt (blk_lt (g := gb270) (o := .cells #[.slice A1_0 l1_0.length c1_0] 24 (0, 0)) (by (with_reducible repeat (first | refine blk_drewN ?_ _ | refine blk_drew ?_ | refine blk_alloc ?_ _)); exact BK270.out)) : gb287 ≠ gb270)); clear HO283; clear BK270; clear HB; have HO283 := n0_; have BK270 := n1_; have HB := n2_; have BK287 := n3_; have GW287 := n4_; have GE287 := n5_; have NB270_287 := n6_; have NB287_270 := n7_; clear n0_ n1_ n2_ n3_ n4_ n5_ n6_ n7_; clear hb hbox hg; obtain ⟨Ao38, co38, eo38⟩ := Kd.R_slice HO283.out; subst eo38; have hnb39 := NB287_270.out; have hnc39 := NB270_287.out; have hcz40_0 : w37.cell? ⟨gb287, 0, none⟩ = some (.slice none 0 0) := (blk_cell BK287.out 0).trans rfl; have hfz40_0 := blk_frozen BK287.out 0; have hcz41_0 : w37.cell? ⟨gb270, 0, none⟩ = some (.slice A1_0 l1_0.length c1_0) := (blk_cell BK270.out 0).trans rfl; have hfz41_0 := blk_frozen BK270.out 0) | (go_at_call 20; (with_reducible refine (turncockref1_SameDesc.calls kj17 _ _ t281 _ _ l1_0 true _ ?side1 ?side2 ?side3 ?side4 A30.out).mono ?_); (case side1 => refine (Kd.R_reads' (e := 47) (base := w.heap.size) (ok := fun k_ => True) (n := t281.length) (c := co38) ?_).2.2; exact (by (with_reducible repeat (first | apply Kd.R_alloc | apply Kd.R_drewN | apply Kd.R_drew)); exact (Kd.R_mono (Kd.R_far (p := ⟨gb287, 0, none⟩) (Kd.R_types HO283.out BK287.out (by decide)) (fun _ hk => hk.2) (.slice Ao38 t281.length co38)) (fun _ h_ => h_.1)))); (case side2 => exact (Kd.R_reads' HO283.out).2.1); (case side3 => exact Kd.C_below HR1_0.out (by repeat (first | (with_reducible first | exact HB.out | apply below_alloc | apply pw_below_drewN | apply below_drew1 | refine below_set ?_ GE270.out | refine below_set ?_ GE287.out) | exact HB.out))); (case side4 => exact HC1_0.out); rintro e w42 ⟨rfl, hb⟩; have n0_ := Aside0.mk (Kd.R_below (by (with_reducible repeat (first | apply Kd.R_alloc | apply Kd.R_drewN | apply Kd.R_drew)); exact (Kd.R_mono (Kd.R_far (p := ⟨gb287, 0, none⟩) (Kd.R_types HO283.out BK287.out (by decide)) (fun _ hk => hk.2) (.slice Ao38 t281.length co38)) (fun _ h_ => h_.1))) hb); have n1_ := Aside0.mk (blk_below (g := gb270) (o := .cells #[.slice A1_0 l1_0.length c1_0] 24 (0, 0)) (by (with_reducible repeat (first | refine blk_drewN ?_ _ | refine blk_drew ?_ | refine blk_alloc ?_ _)); refine blk_far ?_ NB270_287.out _; (with_reducible repeat (first | refine blk_drewN ?_ _ | refine blk_drew ?_ | refine blk_alloc ?_ _)); exact BK270.out) hb); have n2_ := Aside0.mk (blk_below (g := gb287) (o := .cells #[.slice Ao38 t281.length co38] 24 (0, 0)) (by (with_reducible repeat (first | refine blk_drewN ?_ _ | refine blk_drew ?_ | refine blk_alloc ?_ _)); refine blk_put (cs := #[.slice none 0 0]) ?_ 0 _ rfl; (with_reducible repeat (first | refine blk_drewN ?_ _ | refine blk_drew ?_ | refine blk_alloc ?_ _)); exact BK287.out) hb); have n3_ := Aside0.mk (below_step (by repeat (first | (with_reducible first | exact HB.out | apply below_alloc | apply pw_below_drewN | apply below_drew1 | refine below_set ?_ GE270.out | refine below_set ?_ GE287.out) | exact HB.out)) hb); clear HO283; clear BK270; clear BK287; clear HB; have HO283 := n0_; have BK270 := n1_; have BK287 := n2_; have HB := n3_; clear n0_ n1_ n2_ n3_; (try clear hb); (try clear hb2); (try clear hk); (try clear hi)) | (go_at_call 32; (with_reducible refine (turncockref15_Window.calls a3 a2 t289 _ A33.out).mono ?_); rintro e w' ⟨rfl, ⟨nd, rfl⟩⟩) | (go_at_call 28; (with_reducible refine (turncocklaw25_awake.calls kj17  t290 _ A35.out).mono ?_); rintro e w43 ⟨rfl, hb⟩; have n0_ := Aside0.mk (Kd.R_below (by (with_reducible repeat (first | apply Kd.R_alloc | apply Kd.R_drewN | apply Kd.R_drew)); exact HO283.out) hb); have n1_ := Aside0.mk (blk_below (g := gb270) (o := .cells #[.slice A1_0 l1_0.length c1_0] 24 (0, 0)) (by (with_reducible repeat (first | refine blk_drewN ?_ _ | refine blk_drew ?_ | refine blk_alloc ?_ _)); exact BK270.out) hb); have n2_ := Aside0.mk (blk_below (g := gb287) (o := .cells #[.slice Ao38 t281.length co38] 24 (0, 0)) (by (with_reducible repeat (first | refine blk_drewN ?_ _ | refine blk_drew ?_ | refine blk_alloc ?_ _)); exact BK287.out) hb); have n3_ := Aside0.mk (below_step (by repeat (first | (with_reducible first | exact HB.out | apply below_alloc | apply pw_below_drewN | apply below_drew1 | refine below_set ?_ GE270.out | refine below_set ?_ GE287.out) | exact HB.out)) hb); clear HO283; clear BK270; clear BK287; clear HB; have HO283 := n0_; have BK270 := n1_; have BK287 := n2_; have HB := n3_; clear n0_ n1_ n2_ n3_; (try clear hb); (try clear hb2); (try clear hk); (try clear hi)))
                               go_ret
                               exact ⟨by first | rfl | (simp [errW_none, errW_some] <;> rfl) | (simp [*, errW_none, errW_some] <;> rfl), by repeat (first | (with_reducible first | exact HB.out | apply below_alloc | apply pw_below_drewN | apply below_drew1 | refine below_set ?_ GE270.out | refine below_set ?_ GE287.out) | exact HB.out)⟩)
                        · rw [if_neg c34] at H
                          have c34b0 : (t285 == t289) = false := beq_eq_false_iff_ne.mpr c34
                          have c34b1 : (t285 != t289) = true := bne_iff_ne.mpr c34
                          first
                            | exact absurd ((Option.some.inj H).trans hr_) (by decide)
                            | (obtain rfl := Option.some.inj H
                               clear hr_
                               go_wp2_with (first | ((with_reducible refine gate_callee (f := 31) rfl ?_); refine goesL_ (some 64) rfl rfl Tryd.func31 (by kernel_rfl) rfl #[.string t273] rfl (by (try simp only [List.map_toArray, List.map_cons, List.map_nil]); first | done | rfl | (simp only [List.length_drop, List.length_take]; rfl)) ?_; (with_reducible refine (key_Parse.calls kj17 t273 t280 t281 t284 t285 true _ A27.out).mono ?_); rintro e w44 ⟨v282, rfl, ho0, hb⟩; refine ⟨_, rfl, ?_⟩; have n0_ := Aside0.mk (Kd.R_lower ho0 (below_size (by repeat (first | (with_reducible first | exact HB.out | apply below_alloc | apply pw_below_drewN | apply below_drew1 | refine below_set ?_ GE270.out) | exact HB.out)))); have n1_ := Aside0.mk (blk_below (g := gb270) (o := .cells #[.slice A1_0 l1_0.length c1_0] 24 (0, 0)) (by (with_reducible repeat (first | refine blk_drewN ?_ _ | refine blk_drew ?_ | refine blk_alloc ?_ _)); exact BK270.out) hb); have n2_ := Aside0.mk (below_step (by repeat (first | (with_reducible first | exact HB.out | apply below_alloc | apply pw_below_drewN | apply below_drew1 | refine below_set ?_ GE270.out) | exact HB.out)) hb); clear BK270; clear HB; have HO283 := n0_; have BK270 := n1_; have HB := n2_; clear n0_ n1_ n2_; (try clear hb); (try clear hb2); (try clear hk); (try clear hi); (try clear ho0)) | ((with_reducible refine gate_dst (N := 16) rfl ?_); (try (refine gate_guard (by rfl) ?_; dsimp only)); refine box_event ?hg (N := 16) ?hd (cs := #[.slice none 0 0]) (t := 24) ?hr ?_; (case hd => rfl); (case hg => rfl); (case hr => first | (go_simp; done) | (go_simp; rfl)); intro gb287 hg w45 hbox hb; have n0_ := Aside0.mk (Kd.R_below (by (with_reducible repeat (first | apply Kd.R_alloc | apply Kd.R_drewN | apply Kd.R_drew)); exact HO283.out) hb); have n1_ := Aside0.mk (blk_below (g := gb270) (o := .cells #[.slice A1_0 l1_0.length c1_0] 24 (0, 0)) (by (with_reducible repeat (first | refine blk_drewN ?_ _ | refine blk_drew ?_ | refine blk_alloc ?_ _)); exact BK270.out) hb); have n2_ := Aside0.mk (below_step (by repeat (first | (with_reducible first | exact HB.out | apply below_alloc | apply pw_below_drewN | apply below_drew1 | refine below_set ?_ GE270.out) | exact HB.out)) hb); have n3_ := Aside0.mk (hbox); have n4_ := Aside0.mk ((by rw [hg]; exact (below_size (by repeat (first | (with_reducible first | exact HB.out | apply below_alloc | apply pw_below_drewN | apply below_drew1 | refine below_set ?_ GE270.out) | exact HB.out))) : w.heap.size ≤ gb287)); have n5_ := Aside0.mk ((by rw [hg]; exact (below_size (by repeat (first | (with_reducible first | exact HB.out | apply below_alloc | apply pw_below_drewN | apply below_drew1 | refine below_set ?_ GE270.out) | exact HB.out))) : w.heap.size ≤ gb287)); have n6_ := Aside0.mk ((by rw [hg]; exact Nat.ne_of_lt (blk_lt (g := gb270) (o := .cells #[.slice A1_0 l1_0.length c1_0] 24 (0, 0)) (by (with_reducible repeat (first | refine blk_drewN ?_ _ | refine blk_drew ?_ | refine blk_alloc ?_ _)); exact BK270.out)) : gb270 ≠ gb287)); have n7_ := Aside0.mk ((by rw [hg]; exact Nat.ne_of_gt (blk_lt (g := gb270) (o := .cells #[.slice A1_0 l1_0.length c1_0] 24 (0, 0)) (by (with_reducible repeat (first | refine blk_drewN ?_ _ | refine blk_drew ?_ | refine blk_alloc ?_ _)); exact BK270.out)) : gb287 ≠ gb270)); clear HO283; clear BK270; clear HB; have HO283 := n0_; have BK270 := n1_; have HB := n2_; have BK287 := n3_; have GW287 := n4_; have GE287 := n5_; have NB270_287 := n6_; have NB287_270 := n7_; clear n0_ n1_ n2_ n3_ n4_ n5_ n6_ n7_; clear hb hbox hg; obtain ⟨Ao46, co46, eo46⟩ := Kd.R_slice HO283.out; subst eo46; have hnb47 := NB287_270.out; have hnc47 := NB270_287.out; have hcz48_0 : w45.cell? ⟨gb287, 0, none⟩ = some (.slice none 0 0) := (blk_cell BK287.out 0).trans rfl; have hfz48_0 := blk_frozen BK287.out 0; have hcz49_0 : w45.cell? ⟨gb270, 0, none⟩ = some (.slice A1_0 l1_0.length c1_0) := (blk_cell BK270.out 0).trans rfl; have hfz49_0 := blk_frozen BK270.out 0) | (go_at_call 20; (with_reducible refine (turncockref1_SameDesc.calls kj17 _ _ t281 _ _ l1_0 true _ ?side1 ?side2 ?side3 ?side4 A30.out).mono ?_); (case side1 => refine (Kd.R_reads' (e := 47) (base := w.heap.size) (ok := fun k_ => True) (n := t281.length) (c := co46) ?_).2.2; exact (by (with_reducible repeat (first | apply Kd.R_alloc | apply Kd.R_drewN | apply Kd.R_drew)); exact (Kd.R_mono (Kd.R_far (p := ⟨gb287, 0, none⟩) (Kd.R_types HO283.out BK287.out (by decide)) (fun _ hk => hk.2) (.slice Ao46 t281.length co46)) (fun _ h_ => h_.1)))); (case side2 => exact (Kd.R_reads' HO283.out).2.1); (case side3 => exact Kd.C_below HR1_0.out (by repeat (first | (with_reducible first | exact HB.out | apply below_alloc | apply pw_below_drewN | apply below_drew1 | refine below_set ?_ GE270.out | refine below_set ?_ GE287.out) | exact HB.out))); (case side4 => exact HC1_0.out); rintro e w50 ⟨rfl, hb⟩; have n0_ := Aside0.mk (Kd.R_below (by (with_reducible repeat (first | apply Kd.R_alloc | apply Kd.R_drewN | apply Kd.R_drew)); exact (Kd.R_mono (Kd.R_far (p := ⟨gb287, 0, none⟩) (Kd.R_types HO283.out BK287.out (by decide)) (fun _ hk => hk.2) (.slice Ao46 t281.length co46)) (fun _ h_ => h_.1))) hb); have n1_ := Aside0.mk (blk_below (g := gb270) (o := .cells #[.slice A1_0 l1_0.length c1_0] 24 (0, 0)) (by (with_reducible repeat (first | refine blk_drewN ?_ _ | refine blk_drew ?_ | refine blk_alloc ?_ _)); refine blk_far ?_ NB270_287.out _; (with_reducible repeat (first | refine blk_drewN ?_ _ | refine blk_drew ?_ | refine blk_alloc ?_ _)); exact BK270.out) hb); have n2_ := Aside0.mk (blk_below (g := gb287) (o := .cells #[.slice Ao46 t281.length co46] 24 (0, 0)) (by (with_reducible repeat (first | refine blk_drewN ?_ _ | refine blk_drew ?_ | refine blk_alloc ?_ _)); refine blk_put (cs := #[.slice none 0 0]) ?_ 0 _ rfl; (with_reducible repeat (first | refine blk_drewN ?_ _ | refine blk_drew ?_ | refine blk_alloc ?_ _)); exact BK287.out) hb); have n3_ := Aside0.mk (below_step (by repeat (first | (with_reducible first | exact HB.out | apply below_alloc | apply pw_below_drewN | apply below_drew1 | refine below_set ?_ GE270.out | refine below_set ?_ GE287.out) | exact HB.out)) hb); clear HO283; clear BK270; clear BK287; clear HB; have HO283 := n0_; have BK270 := n1_; have BK287 := n2_; have HB := n3_; clear n0_ n1_ n2_ n3_; (try clear hb); (try clear hb2); (try clear hk); (try clear hi)) | (go_at_call 32; (with_reducible refine (turncockref15_Window.calls a3 a2 t289 _ A33.out).mono ?_); rintro e w' ⟨rfl, ⟨nd, rfl⟩⟩))
                               go_ret
                               exact ⟨by first | rfl | (simp [errW_none, errW_some] <;> rfl) | (simp [*, errW_none, errW_some] <;> rfl), by repeat (first | (with_reducible first | exact HB.out | apply below_alloc | apply pw_below_drewN | apply below_drew1 | refine below_set ?_ GE270.out | refine below_set ?_ GE287.out) | exact HB.out)⟩)
                      · rw [if_neg c32] at H
                        have c32b0 : (t284 == a2) = false := beq_eq_false_iff_ne.mpr c32
                        have c32b1 : (t284 != a2) = true := bne_iff_ne.mpr c32
                        first
                          | exact absurd ((Option.some.inj H).trans hr_) (by decide)
                          | (obtain rfl := Option.some.inj H
                             clear hr_
                             go_wp2_with (first | ((with_reducible refine gate_callee (f := 31) rfl ?_); refine goesL_ (some 64) rfl rfl Tryd.func31 (by kernel_rfl) rfl #[.string t273] rfl (by (try simp only [List.map_toArray, List.map_cons, List.map_nil]); first | done | rfl | (simp only [List.length_drop, List.length_take]; rfl)) ?_; (with_reducible refine (key_Parse.calls kj17 t273 t280 t281 t284 t285 true _ A27.out).mono ?_); rintro e w51 ⟨v282, rfl, ho0, hb⟩; refine ⟨_, rfl, ?_⟩; have n0_ := Aside0.mk (Kd.R_lower ho0 (below_size (by repeat (first | (with_reducible first | exact HB.out | apply below_alloc | apply pw_below_drewN | apply below_drew1 | refine below_set ?_ GE270.out) | exact HB.out)))); have n1_ := Aside0.mk (blk_below (g := gb270) (o := .cells #[.slice A1_0 l1_0.length c1_0] 24 (0, 0)) (by (with_reducible repeat (first | refine blk_drewN ?_ _ | refine blk_drew ?_ | refine blk_alloc ?_ _)); exact BK270.out) hb); have n2_ := Aside0.mk (below_step (by repeat (first | (with_reducible first | exact HB.out | apply below_alloc | apply pw_below_drewN | apply below_drew1 | refine below_set ?_ GE270.out) | exact HB.out)) hb); clear BK270; clear HB; have HO283 := n0_; have BK270 := n1_; have HB := n2_; clear n0_ n1_ n2_; (try clear hb); (try clear hb2); (try clear hk); (try clear hi); (try clear ho0)) | ((with_reducible refine gate_dst (N := 16) rfl ?_); (try (refine gate_guard (by rfl) ?_; dsimp only)); refine box_event ?hg (N := 16) ?hd (cs := #[.slice none 0 0]) (t := 24) ?hr ?_; (case hd => rfl); (case hg => rfl); (case hr => first | (go_simp; done) | (go_simp; rfl)); intro gb287 hg w52 hbox hb; have n0_ := Aside0.mk (Kd.R_below (by (with_reducible repeat (first | apply Kd.R_alloc | apply Kd.R_drewN | apply Kd.R_drew)); exact HO283.out) hb); have n1_ := Aside0.mk (blk_below (g := gb270) (o := .cells #[.slice A1_0 l1_0.length c1_0] 24 (0, 0)) (by (with_reducible repeat (first | refine blk_drewN ?_ _ | refine blk_drew ?_ | refine blk_alloc ?_ _)); exact BK270.out) hb); have n2_ := Aside0.mk (below_step (by repeat (first | (with_reducible first | exact HB.out | apply below_alloc | apply pw_below_drewN | apply below_drew1 | refine below_set ?_ GE270.out) | exact HB.out)) hb); have n3_ := Aside0.mk (hbox); have n4_ := Aside0.mk ((by rw [hg]; exact (below_size (by repeat (first | (with_reducible first | exact HB.out | apply below_alloc | apply pw_below_drewN | apply below_drew1 | refine below_set ?_ GE270.out) | exact HB.out))) : w.heap.size ≤ gb287)); have n5_ := Aside0.mk ((by rw [hg]; exact (below_size (by repeat (first | (with_reducible first | exact HB.out | apply below_alloc | apply pw_below_drewN | apply below_drew1 | refine below_set ?_ GE270.out) | exact HB.out))) : w.heap.size ≤ gb287)); have n6_ := Aside0.mk ((by rw [hg]; exact Nat.ne_of_lt (blk_lt (g := gb270) (o := .cells #[.slice A1_0 l1_0.length c1_0] 24 (0, 0)) (by (with_reducible repeat (first | refine blk_drewN ?_ _ | refine blk_drew ?_ | refine blk_alloc ?_ _)); exact BK270.out)) : gb270 ≠ gb287)); have n7_ := Aside0.mk ((by rw [hg]; exact Nat.ne_of_gt (blk_lt (g := gb270) (o := .cells #[.slice A1_0 l1_0.length c1_0] 24 (0, 0)) (by (with_reducible repeat (first | refine blk_drewN ?_ _ | refine blk_drew ?_ | refine blk_alloc ?_ _)); exact BK270.out)) : gb287 ≠ gb270)); clear HO283; clear BK270; clear HB; have HO283 := n0_; have BK270 := n1_; have HB := n2_; have BK287 := n3_; have GW287 := n4_; have GE287 := n5_; have NB270_287 := n6_; have NB287_270 := n7_; clear n0_ n1_ n2_ n3_ n4_ n5_ n6_ n7_; clear hb hbox hg; obtain ⟨Ao53, co53, eo53⟩ := Kd.R_slice HO283.out; subst eo53; have hnb54 := NB287_270.out; have hnc54 := NB270_287.out; have hcz55_0 : w52.cell? ⟨gb287, 0, none⟩ = some (.slice none 0 0) := (blk_cell BK287.out 0).trans rfl; have hfz55_0 := blk_frozen BK287.out 0; have hcz56_0 : w52.cell? ⟨gb270, 0, none⟩ = some (.slice A1_0 l1_0.length c1_0) := (blk_cell BK270.out 0).trans rfl; have hfz56_0 := blk_frozen BK270.out 0) | (go_at_call 20; (with_reducible refine (turncockref1_SameDesc.calls kj17 _ _ t281 _ _ l1_0 true _ ?side1 ?side2 ?side3 ?side4 A30.out).mono ?_); (case side1 => refine (Kd.R_reads' (e := 47) (base := w.heap.size) (ok := fun k_ => True) (n := t281.length) (c := co53) ?_).2.2; exact (by (with_reducible repeat (first | apply Kd.R_alloc | apply Kd.R_drewN | apply Kd.R_drew)); exact (Kd.R_mono (Kd.R_far (p := ⟨gb287, 0, none⟩) (Kd.R_types HO283.out BK287.out (by decide)) (fun _ hk => hk.2) (.slice Ao53 t281.length co53)) (fun _ h_ => h_.1)))); (case side2 => exact (Kd.R_reads' HO283.out).2.1); (case side3 => exact Kd.C_below HR1_0.out (by repeat (first | (with_reducible first | exact HB.out | apply below_alloc | apply pw_below_drewN | apply below_drew1 | refine below_set ?_ GE270.out | refine below_set ?_ GE287.out) | exact HB.out))); (case side4 => exact HC1_0.out); rintro e w57 ⟨rfl, hb⟩; have n0_ := Aside0.mk (Kd.R_below (by (with_reducible repeat (first | apply Kd.R_alloc | apply Kd.R_drewN | apply Kd.R_drew)); exact (Kd.R_mono (Kd.R_far (p := ⟨gb287, 0, none⟩) (Kd.R_types HO283.out BK287.out (by decide)) (fun _ hk => hk.2) (.slice Ao53 t281.length co53)) (fun _ h_ => h_.1))) hb); have n1_ := Aside0.mk (blk_below (g := gb270) (o := .cells #[.slice A1_0 l1_0.length c1_0] 24 (0, 0)) (by (with_reducible repeat (first | refine blk_drewN ?_ _ | refine blk_drew ?_ | refine blk_alloc ?_ _)); refine blk_far ?_ NB270_287.out _; (with_reducible repeat (first | refine blk_drewN ?_ _ | refine blk_drew ?_ | refine blk_alloc ?_ _)); exact BK270.out) hb); have n2_ := Aside0.mk (blk_below (g := gb287) (o := .cells #[.slice Ao53 t281.length co53] 24 (0, 0)) (by (with_reducible repeat (first | refine blk_drewN ?_ _ | refine blk_drew ?_ | refine blk_alloc ?_ _)); refine blk_put (cs := #[.slice none 0 0]) ?_ 0 _ rfl; (with_reducible repeat (first | refine blk_drewN ?_ _ | refine blk_drew ?_ | refine blk_alloc ?_ _)); exact BK287.out) hb); have n3_ := Aside0.mk (below_step (by repeat (first | (with_reducible first | exact HB.out | apply below_alloc | apply pw_below_drewN | apply below_drew1 | refine below_set ?_ GE270.out | refine below_set ?_ GE287.out) | exact HB.out)) hb); clear HO283; clear BK270; clear BK287; clear HB; have HO283 := n0_; have BK270 := n1_; have BK287 := n2_; have HB := n3_; clear n0_ n1_ n2_ n3_; (try clear hb); (try clear hb2); (try clear hk); (try clear hi)))
                             go_ret
                             exact ⟨by first | rfl | (simp [errW_none, errW_some] <;> rfl) | (simp [*, errW_none, errW_some] <;> rfl), by repeat (first | (with_reducible first | exact HB.out | apply below_alloc | apply pw_below_drewN | apply below_drew1 | refine below_set ?_ GE270.out | refine below_set ?_ GE287.out) | exact HB.out)⟩)
                    · replace c31 := Bool.eq_false_iff.mpr c31
                      subst c31
                      have H1 : (some false) = some r := by rw [if_neg (show ¬ (false = true) by decide)] at H; exact H
                      clear H
                      have H := H1
                      clear H1
                      exact absurd ((Option.some.inj H).trans hr_) (by decide)
                  · rw [if_neg c29] at H
                    have c29b0 : (t280.toList == a0.toList) = false := beq_eq_false_iff_ne.mpr c29
                    have c29b1 : (t280.toList != a0.toList) = true := bne_iff_ne.mpr c29
                    first
                      | exact absurd ((Option.some.inj H).trans hr_) (by decide)
                      | (obtain rfl := Option.some.inj H
                         clear hr_
                         go_wp2_with (first | ((with_reducible refine gate_callee (f := 31) rfl ?_); refine goesL_ (some 64) rfl rfl Tryd.func31 (by kernel_rfl) rfl #[.string t273] rfl (by (try simp only [List.map_toArray, List.map_cons, List.map_nil]); first | done | rfl | (simp only [List.length_drop, List.length_take]; rfl)) ?_; (with_reducible refine (key_Parse.calls kj17 t273 t280 t281 t284 t285 true _ A27.out).mono ?_); rintro e w65 ⟨v282, rfl, ho0, hb⟩; refine ⟨_, rfl, ?_⟩; have n0_ := Aside0.mk (Kd.R_lower ho0 (below_size (by repeat (first | (with_reducible first | exact HB.out | apply below_alloc | apply pw_below_drewN | apply below_drew1 | refine below_set ?_ GE270.out) | exact HB.out)))); have n1_ := Aside0.mk (blk_below (g := gb270) (o := .cells #[.slice A1_0 l1_0.length c1_0] 24 (0, 0)) (by (with_reducible repeat (first | refine blk_drewN ?_ _ | refine blk_drew ?_ | refine blk_alloc ?_ _)); exact BK270.out) hb); have n2_ := Aside0.mk (below_step (by repeat (first | (with_reducible first | exact HB.out | apply below_alloc | apply pw_below_drewN | apply below_drew1 | refine below_set ?_ GE270.out) | exact HB.out)) hb); clear BK270; clear HB; have HO283 := n0_; have BK270 := n1_; have HB := n2_; clear n0_ n1_ n2_; (try clear hb); (try clear hb2); (try clear hk); (try clear hi); (try clear ho0)) | ((with_reducible refine gate_dst (N := 16) rfl ?_); (try (refine gate_guard (by rfl) ?_; dsimp only)); refine box_event ?hg (N := 16) ?hd (cs := #[.slice none 0 0]) (t := 24) ?hr ?_; (case hd => rfl); (case hg => rfl); (case hr => first | (go_simp; done) | (go_simp; rfl)); intro gb287 hg w66 hbox hb; have n0_ := Aside0.mk (Kd.R_below (by (with_reducible repeat (first | apply Kd.R_alloc | apply Kd.R_drewN | apply Kd.R_drew)); exact HO283.out) hb); have n1_ := Aside0.mk (blk_below (g := gb270) (o := .cells #[.slice A1_0 l1_0.length c1_0] 24 (0, 0)) (by (with_reducible repeat (first | refine blk_drewN ?_ _ | refine blk_drew ?_ | refine blk_alloc ?_ _)); exact BK270.out) hb); have n2_ := Aside0.mk (below_step (by repeat (first | (with_reducible first | exact HB.out | apply below_alloc | apply pw_below_drewN | apply below_drew1 | refine below_set ?_ GE270.out) | exact HB.out)) hb); have n3_ := Aside0.mk (hbox); have n4_ := Aside0.mk ((by rw [hg]; exact (below_size (by repeat (first | (with_reducible first | exact HB.out | apply below_alloc | apply pw_below_drewN | apply below_drew1 | refine below_set ?_ GE270.out) | exact HB.out))) : w.heap.size ≤ gb287)); have n5_ := Aside0.mk ((by rw [hg]; exact (below_size (by repeat (first | (with_reducible first | exact HB.out | apply below_alloc | apply pw_below_drewN | apply below_drew1 | refine below_set ?_ GE270.out) | exact HB.out))) : w.heap.size ≤ gb287)); have n6_ := Aside0.mk ((by rw [hg]; exact Nat.ne_of_lt (blk_lt (g := gb270) (o := .cells #[.slice A1_0 l1_0.length c1_0] 24 (0, 0)) (by (with_reducible repeat (first | refine blk_drewN ?_ _ | refine blk_drew ?_ | refine blk_alloc ?_ _)); exact BK270.out)) : gb270 ≠ gb287)); have n7_ := Aside0.mk ((by rw [hg]; exact Nat.ne_of_gt (blk_lt (g := gb270) (o := .cells #[.slice A1_0 l1_0.length c1_0] 24 (0, 0)) (by (with_reducible repeat (first | refine blk_drewN ?_ _ | refine blk_drew ?_ | refine blk_alloc ?_ _)); exact BK270.out)) : gb287 ≠ gb270)); clear HO283; clear BK270; clear HB; have HO283 := n0_; have BK270 := n1_; have HB := n2_; have BK287 := n3_; have GW287 := n4_; have GE287 := n5_; have NB270_287 := n6_; have NB287_270 := n7_; clear n0_ n1_ n2_ n3_ n4_ n5_ n6_ n7_; clear hb hbox hg; obtain ⟨Ao67, co67, eo67⟩ := Kd.R_slice HO283.out; subst eo67; have hnb68 := NB287_270.out; have hnc68 := NB270_287.out; have hcz69_0 : w66.cell? ⟨gb287, 0, none⟩ = some (.slice none 0 0) := (blk_cell BK287.out 0).trans rfl; have hfz69_0 := blk_frozen BK287.out 0))
                         go_ret
                         exact ⟨by first | rfl | (simp [errW_none, errW_some] <;> rfl) | (simp [*, errW_none, errW_some] <;> rfl), by repeat (first | (with_reducible first | exact HB.out | apply below_alloc | apply pw_below_drewN | apply below_drew1 | refine below_set ?_ GE270.out | refine below_set ?_ GE287.out) | exact HB.out)⟩)
                · replace c28 := Bool.eq_false_iff.mpr c28
                  subst c28
                  have H1 : (some false) = some r := by rw [if_neg (show ¬ (false = true) by decide)] at H; exact H
                  clear H
                  have H := H1
                  clear H1
                  exact absurd ((Option.some.inj H).trans hr_) (by decide)
              · replace c26 := Bool.eq_false_iff.mpr c26
                subst c26
                have H1 : ((turncocklaw25_awake.f kj17).bind fun t279 => (some t279)) = some r := by rw [if_neg (show ¬ (false = true) by decide)] at H; exact H
                clear H
                have H := H1
                clear H1
                replace H := Option.bind_eq_some_iff.mp H
                obtain ⟨t279, A750, H⟩ := H
                replace H : (some t279) = some r := H
                have A75 := Aside0.mk A750
                clear A750
                first
                  | exact absurd ((Option.some.inj H).trans hr_) (by decide)
                  | (obtain rfl := Option.some.inj H
                     clear hr_
                     go_wp2_with (first | ((with_reducible refine gate_callee (f := 28) rfl ?_); refine goesL_ (some 61) rfl rfl Tryd.func28 (by kernel_rfl) rfl #[] rfl (by (try simp only [List.map_toArray, List.map_cons, List.map_nil]); first | done | rfl | (simp only [List.length_drop, List.length_take]; rfl)) ?_; (with_reducible refine (turncocklaw25_awake.calls kj17  t279 _ A75.out).mono ?_); rintro e w76 ⟨rfl, hb⟩; refine ⟨_, rfl, ?_⟩; have n0_ := Aside0.mk (blk_below (g := gb270) (o := .cells #[.slice A1_0 l1_0.length c1_0] 24 (0, 0)) (by (with_reducible repeat (first | refine blk_drewN ?_ _ | refine blk_drew ?_ | refine blk_alloc ?_ _)); exact BK270.out) hb); have n1_ := Aside0.mk (below_step (by repeat (first | (with_reducible first | exact HB.out | apply below_alloc | apply pw_below_drewN | apply below_drew1 | refine below_set ?_ GE270.out) | exact HB.out)) hb); clear BK270; clear HB; have BK270 := n0_; have HB := n1_; clear n0_ n1_; (try clear hb); (try clear hb2); (try clear hk); (try clear hi)))
                     go_ret
                     exact ⟨by first | rfl | (simp [errW_none, errW_some] <;> rfl) | (simp [*, errW_none, errW_some] <;> rfl), by repeat (first | (with_reducible first | exact HB.out | apply below_alloc | apply pw_below_drewN | apply below_drew1 | refine below_set ?_ GE270.out) | exact HB.out)⟩)

end Go.Proofs.YtpemmaffbcbcjaaDoor.PKeyMakes
