-- WRITTEN BY THIS SESSION'S mprint.py upon the print: some functions are proved by hand
import Derived.Test.YtpemmaffbcbcjaaDoorPKeyMakesx0
import Derived.Test.YtpemmaffbcbcjaaDoorPKeyMakesx2
import Derived.Test.YtpemmaffbcbcjaaDoorPKeyMakesx3
namespace Go.Proofs.YtpemmaffbcbcjaaDoor.PKeyMakes
open Go.RowKit Go.Proofs.YtpemmaffbcbcjaaDoorW.PrintWords Go.Proofs.YtpemmaffbcbcjaaDoorW.PrintLast Go.Proofs.YtpemmaffbcbcjaaDoorW.PrintMore
attribute [local go_sem] max2_int min2_int max_two min_two max_three min_three max_four min_four   -- for this text's walks alone
set_option linter.unusedVariables false
set_option linter.unusedSimpArgs false

/-! ### unit_End: function 54 -/
def unit_End.f (a0 : Int) (a1 : Int) : Option (Int) := (unit_Start.f a0 a1).bind fun t152 => ((unit_Secs.f a1).bind fun t153 => (some (wrap64 (t152 + t153))))
set_option maxHeartbeats 8000000 in
set_option maxRecDepth 100000 in
theorem unit_End.calls (a0 : Int) (a1 : Int) (r : Int) (w : World) (h : unit_End.f a0 a1 = some r) :
    Calls Tryd.prog 54 #[.int .i64 a0, .int .i64 a1] w fun e w' => e = .returned (.int .i64 r) ∧ Below w.heap.size w w' := by
  have HB := Aside0.mk (Below.refl w.heap.size w)
  have H : ((unit_Start.f a0 a1).bind fun t152 => ((unit_Secs.f a1).bind fun t153 => (some (wrap64 (t152 + t153))))) = some r := h
  clear h
  replace H := Option.bind_eq_some_iff.mp H
  obtain ⟨t152, A30, H⟩ := H
  replace H : ((unit_Secs.f a1).bind fun t153 => (some (wrap64 (t152 + t153)))) = some r := H
  have A3 := Aside0.mk A30
  clear A30
  replace H := Option.bind_eq_some_iff.mp H
  obtain ⟨t153, A40, H⟩ := H
  replace H : (some (wrap64 (t152 + t153))) = some r := H
  have A4 := Aside0.mk A40
  clear A40
  obtain rfl := Option.some.inj H
  go_enter Tryd.func54, Tryd.ntmps54
  go_wp2_with (first | ((with_reducible refine gate_callee (f := 74) rfl ?_); refine goesL_ (some 7) rfl rfl Tryd.func74 (by kernel_rfl) rfl #[.int .i64 a0, .int .i64 a1] rfl (by (try simp only [List.map_toArray, List.map_cons, List.map_nil]); first | done | rfl | (simp only [List.length_drop, List.length_take]; rfl)) ?_; (with_reducible refine (unit_Start.calls a0 a1 t152 _ A3.out).mono ?_); rintro e w5 ⟨rfl, hb⟩; refine ⟨_, rfl, ?_⟩; have n0_ := Aside0.mk (below_step (by repeat (first | (with_reducible first | exact HB.out | apply below_alloc | apply pw_below_drewN | apply below_drew1) | exact HB.out)) hb); clear HB; have HB := n0_; clear n0_; (try clear hb); (try clear hb2); (try clear hk); (try clear hi)) | ((with_reducible refine gate_callee (f := 50) rfl ?_); refine goesL_ (some 9) rfl rfl Tryd.func50 (by kernel_rfl) rfl #[.int .i64 a1] rfl (by (try simp only [List.map_toArray, List.map_cons, List.map_nil]); first | done | rfl | (simp only [List.length_drop, List.length_take]; rfl)) ?_; (with_reducible refine (unit_Secs.calls a1 t153 _ A4.out).mono ?_); rintro e w6 ⟨rfl, hb⟩; refine ⟨_, rfl, ?_⟩; have n0_ := Aside0.mk (below_step (by repeat (first | (with_reducible first | exact HB.out | apply below_alloc | apply pw_below_drewN | apply below_drew1) | exact HB.out)) hb); clear HB; have HB := n0_; clear n0_; (try clear hb); (try clear hb2); (try clear hk); (try clear hi)))
  go_ret
  exact ⟨by first | rfl | (simp [errW_none, errW_some] <;> rfl) | (simp [*, errW_none, errW_some] <;> rfl), by repeat (first | (with_reducible first | exact HB.out | apply below_alloc | apply pw_below_drewN | apply below_drew1) | exact HB.out)⟩

/-! ### key_Make: function 29 -/
def key_Make.j0 : Nat → ByteArray → Int → Int → Bool → List (S47) → Option (ByteArray × Int × Bool)
  | 0, _, _, _, _, _ => none
  | k + 1, x0, x2, x3, x27, x155000 => if x27 = true then (some ((⟨#[]⟩ : ByteArray), 0, false)) else ((desc_Text.f k x155000).bind fun t158 => ((unit_Name.f x2).bind fun t159 => ((unit_Window.f x3 x2).bind fun t160 => ((num_Digits.f k t160).bind fun t161 => ((strings_Join.f (([x0, t158, t159, t161] : List ByteArray)) (⟨#[124]⟩ : ByteArray)).bind fun t165 => ((unit_End.f x3 x2).bind fun t166 => (some (t165, t166, true))))))))
def key_Make.f (k : Nat) (a0 : ByteArray) (l1_0 : List (S47)) (a2 : Int) (a3 : Int) : Option (ByteArray × Int × Bool) := if a0.toList = ([] : List UInt8) then (key_Make.j0 k a0 a2 a3 true l1_0) else ((strings_IndexByte.f a0 124).bind fun t155 => (if t155 ≥ 0 then (key_Make.j0 k a0 a2 a3 true l1_0) else ((desc_Check.f k l1_0).bind fun t156 => (if t156 = 0 then ((unit_Secs.f a2).bind fun t157 => (key_Make.j0 k a0 a2 a3 (t157 == 0) l1_0)) else (key_Make.j0 k a0 a2 a3 true l1_0)))))
theorem key_Make.mono_l : ∀ k, (∀ y0 y1 y2 y3 y4, LeO (key_Make.j0 k y0 y1 y2 y3 y4) (key_Make.j0 (k + 1) y0 y1 y2 y3 y4))
  | 0 => fun _ _ _ _ _ r h => by simp [key_Make.j0] at h
  | k + 1 => by
    have ih0 := key_Make.mono_l k
    · intro y0 y1 y2 y3 y4
      unfold key_Make.j0
      repeat' first
      | (with_reducible exact ih0 _ _ _ _ _)
      | (with_reducible exact desc_Check.mono _ _)
      | (with_reducible exact desc_Text.mono _ _)
      | (with_reducible exact num_Digits.mono _ _)
      | (with_reducible exact LeO.refl _)
      | (with_reducible exact LeO.none _)
      | (with_reducible refine LeO.ite ?_ ?_)
      | (with_reducible refine LeO.bind ?_ (fun _ => ?_))
      | exact ih0 _ _ _ _ _
      | exact desc_Check.mono _ _
      | exact desc_Text.mono _ _
      | exact num_Digits.mono _ _
      | exact LeO.none _
      | refine LeO.ite ?_ ?_
      | refine LeO.bind ?_ (fun _ => ?_)
theorem key_Make.mono : ∀ a0 a1 a2 a3 k, LeO (key_Make.f k a0 a1 a2 a3) (key_Make.f (k + 1) a0 a1 a2 a3) := by
  intro a0 a1 a2 a3 k
  have ih0 := key_Make.mono_l k
  unfold key_Make.f
  repeat' first
      | (with_reducible exact ih0 _ _ _ _ _)
      | (with_reducible exact desc_Check.mono _ _)
      | (with_reducible exact desc_Text.mono _ _)
      | (with_reducible exact num_Digits.mono _ _)
      | (with_reducible exact LeO.refl _)
      | (with_reducible exact LeO.none _)
      | (with_reducible refine LeO.ite ?_ ?_)
      | (with_reducible refine LeO.bind ?_ (fun _ => ?_))
      | exact ih0 _ _ _ _ _
      | exact desc_Check.mono _ _
      | exact desc_Text.mono _ _
      | exact num_Digits.mono _ _
      | exact LeO.none _
      | refine LeO.ite ?_ ?_
      | refine LeO.bind ?_ (fun _ => ?_)
set_option maxHeartbeats 8000000 in
set_option maxRecDepth 100000 in
theorem key_Make.calls (k : Nat) (a0 : ByteArray) (A1_0 : Option Addr) (c1_0 : Nat) (l1_0 : List (S47)) (a2 : Int) (a3 : Int) (r1 : ByteArray) (r2 : Int) (r3 : Bool) (w : World) (hr1_0 : Kd.C k47 w A1_0 l1_0.length l1_0) (hc1_0 : l1_0.length ≤ c1_0) (h : key_Make.f k a0 l1_0 a2 a3 = some (r1, r2, r3)) :
    Calls Tryd.prog 29 #[.string a0, .agg #[.slice A1_0 l1_0.length c1_0], .int .i64 a2, .int .i64 a3] w fun e w' => e = .returned (.tuple #[.string r1, .int .i64 r2, .bool r3]) ∧ Below w.heap.size w w' := by
  have hu24 := Tryd.underlying24
  have HR1_0 := Aside0.mk hr1_0
  have HC1_0 := Aside0.mk hc1_0
  clear hr1_0 hc1_0
  have HB := Aside0.mk (Below.refl w.heap.size w)
  have H : (if a0.toList = ([] : List UInt8) then (key_Make.j0 k a0 a2 a3 true l1_0) else ((strings_IndexByte.f a0 124).bind fun t155 => (if t155 ≥ 0 then (key_Make.j0 k a0 a2 a3 true l1_0) else ((desc_Check.f k l1_0).bind fun t156 => (if t156 = 0 then ((unit_Secs.f a2).bind fun t157 => (key_Make.j0 k a0 a2 a3 (t157 == 0) l1_0)) else (key_Make.j0 k a0 a2 a3 true l1_0)))))) = some (r1, r2, r3) := h
  clear h
  have HC5 := Aside0.mk H
  clear H
  go_enter Tryd.func29, Tryd.ntmps29
  go_upto_region 1 with (first | ((with_reducible refine gate_dst (N := 5) rfl ?_); refine box_event ?hg (N := 5) ?hd (cs := #[.slice A1_0 l1_0.length c1_0]) (t := 24) ?hr ?_; (case hd => rfl); (case hg => rfl); (case hr => first | (go_simp; done) | (go_simp; rfl)); intro gb154 hg w6 hbox hb; have n0_ := Aside0.mk (below_step (by repeat (first | (with_reducible first | exact HB.out | apply below_alloc | apply pw_below_drewN | apply below_drew1) | exact HB.out)) hb); have n1_ := Aside0.mk (hbox); have n2_ := Aside0.mk ((by rw [hg]; exact (below_size (by repeat (first | (with_reducible first | exact HB.out | apply below_alloc | apply pw_below_drewN | apply below_drew1) | exact HB.out))) : w.heap.size ≤ gb154)); have n3_ := Aside0.mk ((by rw [hg]; exact (below_size (by repeat (first | (with_reducible first | exact HB.out | apply below_alloc | apply pw_below_drewN | apply below_drew1) | exact HB.out))) : w.heap.size ≤ gb154)); clear HB; have HB := n0_; have BK154 := n1_; have GW154 := n2_; have GE154 := n3_; clear n0_ n1_ n2_ n3_; clear hb hbox hg))
  (try simp only [Act.put, List.setIfInBounds_toArray, List.set_cons_zero, List.set_cons_succ])
  go_cut [27] (fun v27 wc => ∃ (kq : Nat) (x27_4 : Bool), v27 = .bool x27_4 ∧ Aside0 (key_Make.j0 kq a0 a2 a3 x27_4 l1_0 = some (r1, r2, r3)) ∧ Aside0 (kq ≤ k) ∧ Aside0 (wc.heap[gb154]? = some (.cells #[(.slice A1_0 l1_0.length c1_0)] 24 (0, 0))) ∧ Aside0 (Below w.heap.size w wc))
  case first =>
    have H := HC5.out
    clear HC5
    by_cases c7 : a0.toList = ([] : List UInt8)
    · rw [if_pos c7] at H
      have c7b0 : (a0.toList == ([] : List UInt8)) = true := beq_iff_eq.mpr c7
      have c7b1 : (a0.toList != ([] : List UInt8)) = false := bne_eq_false_iff_eq.mpr c7
      clear c7
      (first | rw [c7b0] | (simp only [i64_w, i32_w]; rw [c7b0]) | skip)
      have H' := Aside0.mk H
      clear H
      go_wp2
      go_meet
      case rel => exact ⟨_, (true), (by first | rfl | (simp; done) | (simp [*]; done)), H', ⟨by first | omega | exact Nat.le_refl _⟩, ⟨by (with_reducible repeat (first | refine blk_drewN ?_ _ | refine blk_drew ?_ | refine blk_alloc ?_ _)); exact BK154.out⟩, ⟨by repeat (first | (with_reducible first | exact HB.out | apply below_alloc | apply pw_below_drewN | apply below_drew1 | refine below_set ?_ GE154.out) | exact HB.out)⟩⟩
    · rw [if_neg c7] at H
      have c7b0 : (a0.toList == ([] : List UInt8)) = false := beq_eq_false_iff_ne.mpr c7
      have c7b1 : (a0.toList != ([] : List UInt8)) = true := bne_iff_ne.mpr c7
      (first | rw [c7b0] | (simp only [i64_w, i32_w]; rw [c7b0]) | skip)
      replace H := Option.bind_eq_some_iff.mp H
      obtain ⟨t155, A80, H⟩ := H
      replace H : (if t155 ≥ 0 then (key_Make.j0 k a0 a2 a3 true l1_0) else ((desc_Check.f k l1_0).bind fun t156 => (if t156 = 0 then ((unit_Secs.f a2).bind fun t157 => (key_Make.j0 k a0 a2 a3 (t157 == 0) l1_0)) else (key_Make.j0 k a0 a2 a3 true l1_0)))) = some (r1, r2, r3) := H
      have A8 := Aside0.mk A80
      clear A80
      by_cases c9 : t155 ≥ 0
      · rw [if_pos c9] at H
        have c9b0 : decide (0 ≤ t155) = true := decide_eq_true c9
        clear c9
        have H' := Aside0.mk H
        clear H
        go_wp2_with (first | (go_at_call 49; (with_reducible refine (strings_IndexByte.calls a0 124 t155 _ A8.out).mono ?_); rintro e w' ⟨rfl, ⟨nd, rfl⟩⟩))
        go_meet
        case rel => exact ⟨_, (true), (by first | rfl | (simp; done) | (simp [*]; done)), H', ⟨by first | omega | exact Nat.le_refl _⟩, ⟨by (with_reducible repeat (first | refine blk_drewN ?_ _ | refine blk_drew ?_ | refine blk_alloc ?_ _)); exact BK154.out⟩, ⟨by repeat (first | (with_reducible first | exact HB.out | apply below_alloc | apply pw_below_drewN | apply below_drew1 | refine below_set ?_ GE154.out) | exact HB.out)⟩⟩
      · rw [if_neg c9] at H
        have c9b0 : decide (0 ≤ t155) = false := decide_eq_false c9
        clear c9
        replace H := Option.bind_eq_some_iff.mp H
        obtain ⟨t156, A100, H⟩ := H
        replace H : (if t156 = 0 then ((unit_Secs.f a2).bind fun t157 => (key_Make.j0 k a0 a2 a3 (t157 == 0) l1_0)) else (key_Make.j0 k a0 a2 a3 true l1_0)) = some (r1, r2, r3) := H
        have A10 := Aside0.mk A100
        clear A100
        by_cases c11 : t156 = 0
        · rw [if_pos c11] at H
          have c11b0 : (t156 == 0) = true := beq_iff_eq.mpr c11
          have c11b1 : (t156 != 0) = false := bne_eq_false_iff_eq.mpr c11
          clear c11
          replace H := Option.bind_eq_some_iff.mp H
          obtain ⟨t157, A120, H⟩ := H
          replace H : (key_Make.j0 k a0 a2 a3 (t157 == 0) l1_0) = some (r1, r2, r3) := H
          have A12 := Aside0.mk A120
          clear A120
          have H' := Aside0.mk H
          clear H
          go_wp2_with (first | (go_at_call 49; (with_reducible refine (strings_IndexByte.calls a0 124 t155 _ A8.out).mono ?_); rintro e w' ⟨rfl, ⟨nd, rfl⟩⟩; have hcz13_0 : w6.cell? ⟨gb154, 0, none⟩ = some (.slice A1_0 l1_0.length c1_0) := (blk_cell BK154.out 0).trans rfl; have hfz13_0 := blk_frozen BK154.out 0) | (go_at_call 15; (with_reducible refine (desc_Check.calls k _ _ l1_0 t156 _ ?side1 ?side2 A10.out).mono ?_); (case side1 => repeat (first | exact (Kd.C_below HR1_0.out (by repeat (first | (with_reducible first | exact HB.out | apply below_alloc | apply pw_below_drewN | apply below_drew1 | refine below_set ?_ GE154.out) | exact HB.out))) | (with_reducible refine Kd.C_alloc ?_ _) | (with_reducible refine Kd.C_drewN ?_ _) | (with_reducible refine Kd.C_drew ?_))); (case side2 => exact HC1_0.out); rintro e w14 ⟨rfl, hb⟩; have n0_ := Aside0.mk (blk_below (g := gb154) (o := .cells #[.slice A1_0 l1_0.length c1_0] 24 (0, 0)) (by (with_reducible repeat (first | refine blk_drewN ?_ _ | refine blk_drew ?_ | refine blk_alloc ?_ _)); exact BK154.out) hb); have n1_ := Aside0.mk (below_step (by repeat (first | (with_reducible first | exact HB.out | apply below_alloc | apply pw_below_drewN | apply below_drew1 | refine below_set ?_ GE154.out) | exact HB.out)) hb); clear BK154; clear HB; have BK154 := n0_; have HB := n1_; clear n0_ n1_; (try clear hb); (try clear hb2); (try clear hk); (try clear hi)) | (go_at_call 50; (with_reducible refine (unit_Secs.calls a2 t157 _ A12.out).mono ?_); rintro e w15 ⟨rfl, hb⟩; have n0_ := Aside0.mk (blk_below (g := gb154) (o := .cells #[.slice A1_0 l1_0.length c1_0] 24 (0, 0)) (by (with_reducible repeat (first | refine blk_drewN ?_ _ | refine blk_drew ?_ | refine blk_alloc ?_ _)); exact BK154.out) hb); have n1_ := Aside0.mk (below_step (by repeat (first | (with_reducible first | exact HB.out | apply below_alloc | apply pw_below_drewN | apply below_drew1 | refine below_set ?_ GE154.out) | exact HB.out)) hb); clear BK154; clear HB; have BK154 := n0_; have HB := n1_; clear n0_ n1_; (try clear hb); (try clear hb2); (try clear hk); (try clear hi)))
          go_meet
          case rel => exact ⟨_, ((t157 == 0)), (by first | rfl | (simp; done) | (simp [*]; done)), H', ⟨by first | omega | exact Nat.le_refl _⟩, ⟨by (with_reducible repeat (first | refine blk_drewN ?_ _ | refine blk_drew ?_ | refine blk_alloc ?_ _)); exact BK154.out⟩, ⟨by repeat (first | (with_reducible first | exact HB.out | apply below_alloc | apply pw_below_drewN | apply below_drew1 | refine below_set ?_ GE154.out) | exact HB.out)⟩⟩
        · rw [if_neg c11] at H
          have c11b0 : (t156 == 0) = false := beq_eq_false_iff_ne.mpr c11
          have c11b1 : (t156 != 0) = true := bne_iff_ne.mpr c11
          have H' := Aside0.mk H
          clear H
          go_wp2_with (first | (go_at_call 49; (with_reducible refine (strings_IndexByte.calls a0 124 t155 _ A8.out).mono ?_); rintro e w' ⟨rfl, ⟨nd, rfl⟩⟩; have hcz16_0 : w6.cell? ⟨gb154, 0, none⟩ = some (.slice A1_0 l1_0.length c1_0) := (blk_cell BK154.out 0).trans rfl; have hfz16_0 := blk_frozen BK154.out 0) | (go_at_call 15; (with_reducible refine (desc_Check.calls k _ _ l1_0 t156 _ ?side1 ?side2 A10.out).mono ?_); (case side1 => repeat (first | exact (Kd.C_below HR1_0.out (by repeat (first | (with_reducible first | exact HB.out | apply below_alloc | apply pw_below_drewN | apply below_drew1 | refine below_set ?_ GE154.out) | exact HB.out))) | (with_reducible refine Kd.C_alloc ?_ _) | (with_reducible refine Kd.C_drewN ?_ _) | (with_reducible refine Kd.C_drew ?_))); (case side2 => exact HC1_0.out); rintro e w17 ⟨rfl, hb⟩; have n0_ := Aside0.mk (blk_below (g := gb154) (o := .cells #[.slice A1_0 l1_0.length c1_0] 24 (0, 0)) (by (with_reducible repeat (first | refine blk_drewN ?_ _ | refine blk_drew ?_ | refine blk_alloc ?_ _)); exact BK154.out) hb); have n1_ := Aside0.mk (below_step (by repeat (first | (with_reducible first | exact HB.out | apply below_alloc | apply pw_below_drewN | apply below_drew1 | refine below_set ?_ GE154.out) | exact HB.out)) hb); clear BK154; clear HB; have BK154 := n0_; have HB := n1_; clear n0_ n1_; (try clear hb); (try clear hb2); (try clear hk); (try clear hi)))
          go_meet
          case rel => exact ⟨_, (true), (by first | rfl | (simp; done) | (simp [*]; done)), H', ⟨by first | omega | exact Nat.le_refl _⟩, ⟨by (with_reducible repeat (first | refine blk_drewN ?_ _ | refine blk_drew ?_ | refine blk_alloc ?_ _)); exact BK154.out⟩, ⟨by repeat (first | (with_reducible first | exact HB.out | apply below_alloc | apply pw_below_drewN | apply below_drew1 | refine below_set ?_ GE154.out) | exact HB.out)⟩⟩
  case rest =>
    clear HC5
    try clear c1
    try clear c2
    try clear p2
    try clear c7
    try clear c7b0
    try clear c7b1
    try clear c9
    try clear c9b0
    try clear c11
    try clear c11b0
    try clear c11b1
    try clear hcz13_0
    try clear hcz16_0
    try clear hfz13_0
    try clear hfz16_0
    obtain ⟨kq, x27_4, rfl, HA, HJ4, BK154, HB⟩ := hcut
    cases kq with
    | zero => exact absurd HA.out (by simp [key_Make.j0])
    | succ kj4 =>
      have H := HA.out
      clear HA
      simp only [key_Make.j0] at H
      by_cases c18 : x27_4 = true
      · subst c18
        have H1 : (some ((⟨#[]⟩ : ByteArray), 0, false)) = some (r1, r2, r3) := by rw [if_pos rfl] at H; exact H
        clear H
        have H := H1
        clear H1
        simp only [Option.some.injEq, Prod.mk.injEq] at H
        obtain ⟨rfl, rfl, rfl⟩ := H
        go_wp2
        go_ret3
        exact ⟨by first | rfl | (simp [errW_none, errW_some] <;> rfl) | (simp [*, errW_none, errW_some] <;> rfl), by repeat (first | (with_reducible first | exact HB.out | apply below_alloc | apply pw_below_drewN | apply below_drew1 | refine below_set ?_ GE154.out) | exact HB.out)⟩
      · replace c18 := Bool.eq_false_iff.mpr c18
        subst c18
        have H1 : ((desc_Text.f kj4 l1_0).bind fun t158 => ((unit_Name.f a2).bind fun t159 => ((unit_Window.f a3 a2).bind fun t160 => ((num_Digits.f kj4 t160).bind fun t161 => ((strings_Join.f (([a0, t158, t159, t161] : List ByteArray)) (⟨#[124]⟩ : ByteArray)).bind fun t165 => ((unit_End.f a3 a2).bind fun t166 => (some (t165, t166, true)))))))) = some (r1, r2, r3) := by rw [if_neg (show ¬ (false = true) by decide)] at H; exact H
        clear H
        have H := H1
        clear H1
        replace H := Option.bind_eq_some_iff.mp H
        obtain ⟨t158, A190, H⟩ := H
        replace H : ((unit_Name.f a2).bind fun t159 => ((unit_Window.f a3 a2).bind fun t160 => ((num_Digits.f kj4 t160).bind fun t161 => ((strings_Join.f (([a0, t158, t159, t161] : List ByteArray)) (⟨#[124]⟩ : ByteArray)).bind fun t165 => ((unit_End.f a3 a2).bind fun t166 => (some (t165, t166, true))))))) = some (r1, r2, r3) := H
        have A19 := Aside0.mk A190
        clear A190
        replace H := Option.bind_eq_some_iff.mp H
        obtain ⟨t159, A200, H⟩ := H
        replace H : ((unit_Window.f a3 a2).bind fun t160 => ((num_Digits.f kj4 t160).bind fun t161 => ((strings_Join.f (([a0, t158, t159, t161] : List ByteArray)) (⟨#[124]⟩ : ByteArray)).bind fun t165 => ((unit_End.f a3 a2).bind fun t166 => (some (t165, t166, true)))))) = some (r1, r2, r3) := H
        have A20 := Aside0.mk A200
        clear A200
        replace H := Option.bind_eq_some_iff.mp H
        obtain ⟨t160, A210, H⟩ := H
        replace H : ((num_Digits.f kj4 t160).bind fun t161 => ((strings_Join.f (([a0, t158, t159, t161] : List ByteArray)) (⟨#[124]⟩ : ByteArray)).bind fun t165 => ((unit_End.f a3 a2).bind fun t166 => (some (t165, t166, true))))) = some (r1, r2, r3) := H
        have A21 := Aside0.mk A210
        clear A210
        replace H := Option.bind_eq_some_iff.mp H
        obtain ⟨t161, A220, H⟩ := H
        replace H : ((strings_Join.f (([a0, t158, t159, t161] : List ByteArray)) (⟨#[124]⟩ : ByteArray)).bind fun t165 => ((unit_End.f a3 a2).bind fun t166 => (some (t165, t166, true)))) = some (r1, r2, r3) := H
        have A22 := Aside0.mk A220
        clear A220
        obtain ⟨y162, hy162⟩ : ∃ y_ : List ByteArray, y_ = (([a0, t158, t159, t161] : List ByteArray)) := ⟨_, rfl⟩
        replace H : ((strings_Join.f y162 (⟨#[124]⟩ : ByteArray)).bind fun t165 => ((unit_End.f a3 a2).bind fun t166 => (some (t165, t166, true)))) = some (r1, r2, r3) := by first | (rw [hy162]; with_reducible exact H) | (have H2_ := (Option.bind_some _ _).symm.trans H; rw [hy162]; with_reducible exact H2_) | (have H2_ := (Option.bind_some _ _).symm.trans H; with_reducible exact H2_) | with_reducible exact H | (rw [hy162]; exact H) | exact H
        have Ny162 := Aside0.mk hy162
        clear hy162
        replace H := Option.bind_eq_some_iff.mp H
        obtain ⟨t165, A230, H⟩ := H
        replace H : ((unit_End.f a3 a2).bind fun t166 => (some (t165, t166, true))) = some (r1, r2, r3) := H
        have A23 := Aside0.mk A230
        clear A230
        replace H := Option.bind_eq_some_iff.mp H
        obtain ⟨t166, A240, H⟩ := H
        replace H : (some (t165, t166, true)) = some (r1, r2, r3) := H
        have A24 := Aside0.mk A240
        clear A240
        simp only [Option.some.injEq, Prod.mk.injEq] at H
        obtain ⟨rfl, rfl, rfl⟩ := H
        have hcz25_0 : wc.cell? ⟨gb154, 0, none⟩ = some (.slice A1_0 l1_0.length c1_0) := (blk_cell BK154.out 0).trans rfl
        have hfz25_0 := blk_frozen BK154.out 0
        go_wp2_with (first | ((with_reducible refine gate_callee (f := 14) rfl ?_); refine goesL_ (some 30) rfl rfl Tryd.func14 (by kernel_rfl) rfl #[.agg #[.slice A1_0 l1_0.length c1_0]] rfl (by (try simp only [List.map_toArray, List.map_cons, List.map_nil]); first | done | rfl | (simp only [List.length_drop, List.length_take]; rfl)) ?_; (with_reducible refine (desc_Text.calls kj4 _ _ l1_0 t158 _ ?side1 ?side2 A19.out).mono ?_); (case side1 => repeat (first | exact (Kd.C_below HR1_0.out HB.out) | (with_reducible refine Kd.C_alloc ?_ _) | (with_reducible refine Kd.C_drewN ?_ _) | (with_reducible refine Kd.C_drew ?_))); (case side2 => exact HC1_0.out); rintro e w26 ⟨rfl, hb⟩; refine ⟨_, rfl, ?_⟩; have n0_ := Aside0.mk (blk_below (g := gb154) (o := .cells #[.slice A1_0 l1_0.length c1_0] 24 (0, 0)) (by (with_reducible repeat (first | refine blk_drewN ?_ _ | refine blk_drew ?_ | refine blk_alloc ?_ _)); exact BK154.out) hb); have n1_ := Aside0.mk (below_step (by repeat (first | (with_reducible first | exact HB.out | apply below_alloc | apply pw_below_drewN | apply below_drew1 | refine below_set ?_ GE154.out) | exact HB.out)) hb); clear BK154; clear HB; have BK154 := n0_; have HB := n1_; clear n0_ n1_; (try clear hb); (try clear hb2); (try clear hk); (try clear hi)) | ((with_reducible refine gate_callee (f := 51) rfl ?_); refine goesL_ (some 32) rfl rfl Tryd.func51 (by kernel_rfl) rfl #[.int .i64 a2] rfl (by (try simp only [List.map_toArray, List.map_cons, List.map_nil]); first | done | rfl | (simp only [List.length_drop, List.length_take]; rfl)) ?_; (with_reducible refine (unit_Name.calls a2 t159 _ A20.out).mono ?_); rintro e w27 ⟨rfl, hb⟩; refine ⟨_, rfl, ?_⟩; have n0_ := Aside0.mk (blk_below (g := gb154) (o := .cells #[.slice A1_0 l1_0.length c1_0] 24 (0, 0)) (by (with_reducible repeat (first | refine blk_drewN ?_ _ | refine blk_drew ?_ | refine blk_alloc ?_ _)); exact BK154.out) hb); have n1_ := Aside0.mk (below_step (by repeat (first | (with_reducible first | exact HB.out | apply below_alloc | apply pw_below_drewN | apply below_drew1 | refine below_set ?_ GE154.out) | exact HB.out)) hb); clear BK154; clear HB; have BK154 := n0_; have HB := n1_; clear n0_ n1_; (try clear hb); (try clear hb2); (try clear hk); (try clear hi)) | ((with_reducible refine gate_callee (f := 53) rfl ?_); refine goesL_ (some 35) rfl rfl Tryd.func53 (by kernel_rfl) rfl #[.int .i64 a3, .int .i64 a2] rfl (by (try simp only [List.map_toArray, List.map_cons, List.map_nil]); first | done | rfl | (simp only [List.length_drop, List.length_take]; rfl)) ?_; (with_reducible refine (unit_Window.calls a3 a2 t160 _ A21.out).mono ?_); rintro e w28 ⟨rfl, hb⟩; refine ⟨_, rfl, ?_⟩; have n0_ := Aside0.mk (blk_below (g := gb154) (o := .cells #[.slice A1_0 l1_0.length c1_0] 24 (0, 0)) (by (with_reducible repeat (first | refine blk_drewN ?_ _ | refine blk_drew ?_ | refine blk_alloc ?_ _)); exact BK154.out) hb); have n1_ := Aside0.mk (below_step (by repeat (first | (with_reducible first | exact HB.out | apply below_alloc | apply pw_below_drewN | apply below_drew1 | refine below_set ?_ GE154.out) | exact HB.out)) hb); clear BK154; clear HB; have BK154 := n0_; have HB := n1_; clear n0_ n1_; (try clear hb); (try clear hb2); (try clear hk); (try clear hi)) | ((with_reducible refine gate_callee (f := 52) rfl ?_); refine goesL_ (some 36) rfl rfl Tryd.func52 (by kernel_rfl) rfl #[.int .i64 t160] rfl (by (try simp only [List.map_toArray, List.map_cons, List.map_nil]); first | done | rfl | (simp only [List.length_drop, List.length_take]; rfl)) ?_; (with_reducible refine (num_Digits.calls kj4 t160 t161 _ A22.out).mono ?_); rintro e w29 ⟨rfl, hb⟩; refine ⟨_, rfl, ?_⟩; have n0_ := Aside0.mk (blk_below (g := gb154) (o := .cells #[.slice A1_0 l1_0.length c1_0] 24 (0, 0)) (by (with_reducible repeat (first | refine blk_drewN ?_ _ | refine blk_drew ?_ | refine blk_alloc ?_ _)); exact BK154.out) hb); have n1_ := Aside0.mk (below_step (by repeat (first | (with_reducible first | exact HB.out | apply below_alloc | apply pw_below_drewN | apply below_drew1 | refine below_set ?_ GE154.out) | exact HB.out)) hb); clear BK154; clear HB; have BK154 := n0_; have HB := n1_; clear n0_ n1_; (try clear hb); (try clear hb2); (try clear hk); (try clear hi)) | ((with_reducible refine gate_dst (N := 37) rfl ?_); refine Kd.R_lit Kd.string _ 9 ?hg (N := 37) ?hd (xs := ([a0, t158, t159, t161] : List ByteArray)) (inner := [.string a0, .string t158, .string t159, .string t161]) (ok := fun _ => True) (okp := fun _ => True) ?hr ?hp (fun _ hk => hk) trivial (Below.refl _ _) (Nat.le_refl _) (by simp) ?_; (case hd => rfl); (case hg => rfl); (case hr => first | (go_simp; done) | (go_simp; rfl)); (case hp => exact (Reps.one (show Kd.M Kd.string _ _ _ a0 [.string a0] from rfl) (Reps.one (show Kd.M Kd.string _ _ _ t158 [.string t158] from rfl) (Reps.one (show Kd.M Kd.string _ _ _ t159 [.string t159] from rfl) (Reps.one (show Kd.M Kd.string _ _ _ t161 [.string t161] from rfl) (Reps.none _ _)))))); intro v163 w30 ho31 hb hg_ hnew_; clear hg_ hnew_; (first | rw [← Ny162.out] at ho31 | (simp only [Int.reduceToNat] at ho31; rw [← Ny162.out] at ho31)); have n0_ := Aside0.mk (Kd.R_lower ho31 (below_size (by repeat (first | (with_reducible first | exact HB.out | apply below_alloc | apply pw_below_drewN | apply below_drew1 | refine below_set ?_ GE154.out) | exact HB.out)))); have n1_ := Aside0.mk (blk_below (g := gb154) (o := .cells #[.slice A1_0 l1_0.length c1_0] 24 (0, 0)) (by (with_reducible repeat (first | refine blk_drewN ?_ _ | refine blk_drew ?_ | refine blk_alloc ?_ _)); exact BK154.out) hb); have n2_ := Aside0.mk (below_step (by repeat (first | (with_reducible first | exact HB.out | apply below_alloc | apply pw_below_drewN | apply below_drew1 | refine below_set ?_ GE154.out) | exact HB.out)) hb); clear BK154; clear HB; have HO164 := n0_; have BK154 := n1_; have HB := n2_; clear n0_ n1_ n2_; clear hb ho31; obtain ⟨Ao32, co32, eo32⟩ := Kd.R_slice HO164.out; subst eo32) | ((with_reducible refine gate_callee (f := 36) rfl ?_); refine goesL_ (some 38) rfl rfl Tryd.func36 (by kernel_rfl) rfl #[.slice Ao32 y162.length co32, .string (⟨#[124]⟩ : ByteArray)] rfl (by (try simp only [List.map_toArray, List.map_cons, List.map_nil]); first | done | rfl | (simp only [List.length_drop, List.length_take]; rfl)) ?_; (with_reducible refine (strings_Join.calls _ _ y162 (⟨#[124]⟩ : ByteArray) t165 _ ?side1 ?side2 A23.out).mono ?_); (case side1 => repeat (first | exact (Kd.R_reads' HO164.out).2.2 | (with_reducible refine Kd.C_alloc ?_ _) | (with_reducible refine Kd.C_drewN ?_ _) | (with_reducible refine Kd.C_drew ?_))); (case side2 => exact (Kd.R_reads' HO164.out).2.1); rintro e w33 ⟨rfl, hb⟩; refine ⟨_, rfl, ?_⟩; have n0_ := Aside0.mk (Kd.R_below (by (with_reducible repeat (first | apply Kd.R_alloc | apply Kd.R_drewN | apply Kd.R_drew)); exact HO164.out) hb); have n1_ := Aside0.mk (blk_below (g := gb154) (o := .cells #[.slice A1_0 l1_0.length c1_0] 24 (0, 0)) (by (with_reducible repeat (first | refine blk_drewN ?_ _ | refine blk_drew ?_ | refine blk_alloc ?_ _)); exact BK154.out) hb); have n2_ := Aside0.mk (below_step (by repeat (first | (with_reducible first | exact HB.out | apply below_alloc | apply pw_below_drewN | apply below_drew1 | refine below_set ?_ GE154.out) | exact HB.out)) hb); clear HO164; clear BK154; clear HB; have HO164 := n0_; have BK154 := n1_; have HB := n2_; clear n0_ n1_ n2_; (try clear hb); (try clear hb2); (try clear hk); (try clear hi)) | ((with_reducible refine gate_callee (f := 54) rfl ?_); refine goesL_ (some 41) rfl rfl Tryd.func54 (by kernel_rfl) rfl #[.int .i64 a3, .int .i64 a2] rfl (by (try simp only [List.map_toArray, List.map_cons, List.map_nil]); first | done | rfl | (simp only [List.length_drop, List.length_take]; rfl)) ?_; (with_reducible refine (unit_End.calls a3 a2 t166 _ A24.out).mono ?_); rintro e w34 ⟨rfl, hb⟩; refine ⟨_, rfl, ?_⟩; have n0_ := Aside0.mk (Kd.R_below (by (with_reducible repeat (first | apply Kd.R_alloc | apply Kd.R_drewN | apply Kd.R_drew)); exact HO164.out) hb); have n1_ := Aside0.mk (blk_below (g := gb154) (o := .cells #[.slice A1_0 l1_0.length c1_0] 24 (0, 0)) (by (with_reducible repeat (first | refine blk_drewN ?_ _ | refine blk_drew ?_ | refine blk_alloc ?_ _)); exact BK154.out) hb); have n2_ := Aside0.mk (below_step (by repeat (first | (with_reducible first | exact HB.out | apply below_alloc | apply pw_below_drewN | apply below_drew1 | refine below_set ?_ GE154.out) | exact HB.out)) hb); clear HO164; clear BK154; clear HB; have HO164 := n0_; have BK154 := n1_; have HB := n2_; clear n0_ n1_ n2_; (try clear hb); (try clear hb2); (try clear hk); (try clear hi)))
        go_ret3
        exact ⟨by first | rfl | (simp [errW_none, errW_some] <;> rfl) | (simp [*, errW_none, errW_some] <;> rfl), by repeat (first | (with_reducible first | exact HB.out | apply below_alloc | apply pw_below_drewN | apply below_drew1 | refine below_set ?_ GE154.out) | exact HB.out)⟩

/-! ### strings_Split: function 37 (my own) -/
def strings_Split.f (a0 : ByteArray) (a1 : ByteArray) : Option (List ByteArray) := if a1.size = 1 ∧ a0.size < 4294967281 then some (Lib.splitB a1 0 (Lib.countB a0 a1) a0) else none
set_option maxRecDepth 100000 in
theorem strings_Split.gen (s : ByteArray) (c : UInt8) (hs : s.size < 4294967281) (w : World) :
    Calls Tryd.prog 66 #[.string s, .string ⟨#[c]⟩, .int .i64 0, .int .i64 (-1)] w fun e w' =>
      e = .returned (.slice (some ⟨w.heap.size, 0, none⟩) (Lib.countB s ⟨#[c]⟩ + 1) (Lib.countB s ⟨#[c]⟩ + 1)) ∧ w' = w.alloc (.cells ((Lib.splitB ⟨#[c]⟩ 0 (Lib.countB s ⟨#[c]⟩) s).map Value.string).toArray 9) := by
  have h1 : 1 ≤ (⟨#[c]⟩ : ByteArray).size := Nat.le_refl _
  have hle := Lib.countB_le ⟨#[c]⟩ h1 s.size s (Nat.le_refl _)
  have hlen := Lib.splitB_all ⟨#[c]⟩ h1 0 _ s rfl
  have cc := Any.strings_genSplit_core Tryd.lays221 (by kernel_rfl) s ⟨#[c]⟩ 0 (-1) (Lib.countB s ⟨#[c]⟩ + 1) w hs h1 (Nat.zero_le _)
    (fun x cs hx => (Tryd.strings_Index_one x c _).mono (by rintro e w' ⟨rfl, rfl⟩; exact ⟨by rw [show Lib.indexB x ⟨#[c]⟩ = Lib.indexByte x.data.toList c from Lib.index_one _ _], rfl⟩))
    ((Tryd.strings_Count_one s c w).mono (by rintro e w' ⟨rfl, rfl⟩; exact ⟨by rw [show Lib.countB s ⟨#[c]⟩ = List.count c s.data.toList from Lib.count_one _ _]; rfl, rfl⟩))
    (by decide) (by decide) (by rw [if_pos (by decide)]; omega)
  rw [Nat.add_sub_cancel, hlen] at cc
  have e2 : Lib.cellsOf (Lib.splitB ⟨#[c]⟩ 0 (Lib.countB s ⟨#[c]⟩) s) (Lib.countB s ⟨#[c]⟩ + 1) = ((Lib.splitB ⟨#[c]⟩ 0 (Lib.countB s ⟨#[c]⟩) s).map Value.string).toArray := by
    have := Lib.cellsOf_full (Lib.splitB ⟨#[c]⟩ 0 (Lib.countB s ⟨#[c]⟩) s)
    rw [hlen] at this
    exact this
  rw [e2] at cc
  exact cc
theorem strings_Split.own (l : List ByteArray) (w : World) (hm : l.length ≤ 9223372036854775807) (h0 : l ≠ []) :
    Kd.R Kd.string 9 (w.alloc (.cells (l.map Value.string).toArray 9)) w.heap.size (fun _ => True) (.slice (some ⟨w.heap.size, 0, none⟩) l.length l.length) l := by
  refine ⟨fun _ _ => trivial, l.map Value.string, ⟨?_, .inr ⟨w.heap.size, l.length, _, rfl, Nat.le_refl _, heap_alloc_new w _, Nat.le_refl _, hm, ?_, ?_⟩⟩, ?_, ?_⟩
  · show (l.map Value.string).length = l.length * 1; simp
  · show (l.map Value.string).toArray.size = l.length * 1; simp
  · show List.take (l.length * 1) (l.map Value.string).toArray.toList = _
    rw [Nat.mul_one]
    exact List.take_of_length_le (by simp)
  · show (l.map Value.string).length = l.length * 1; simp
  · intro j p hj
    show ((l.map Value.string).drop (j * 1)).take 1 = [Value.string p]
    have hlt : j < l.length := (List.getElem?_eq_some_iff.1 hj).1
    rw [Nat.mul_one, List.drop_eq_getElem_cons (by simpa using hlt)]
    simp only [List.take_succ_cons, List.take_zero, List.getElem_map]
    rw [(List.getElem?_eq_some_iff.1 hj).2]
set_option maxRecDepth 100000 in
theorem strings_Split.calls (a0 : ByteArray) (a1 : ByteArray) (r : List ByteArray) (w : World) (h : strings_Split.f a0 a1 = some r) :
    Calls Tryd.prog 37 #[.string a0, .string a1] w fun e w' => ∃ v0_ : Value, e = .returned (v0_) ∧ Kd.R Kd.string 9 w' w.heap.size (fun _ => True) v0_ r ∧ Below w.heap.size w w' := by
  unfold strings_Split.f at h
  split at h
  · rename_i hb
    obtain ⟨c, rfl⟩ := Lib.one_byte a1 hb.1
    obtain rfl := Option.some.inj h
    have hs := hb.2
    clear h hb
    have hlen := Lib.splitB_all ⟨#[c]⟩ (Nat.le_refl _) 0 _ a0 rfl
    have hle := Lib.countB_le ⟨#[c]⟩ (Nat.le_refl _) a0.size a0 (Nat.le_refl _)
    have HO := Aside0.mk (strings_Split.own (Lib.splitB ⟨#[c]⟩ 0 (Lib.countB a0 ⟨#[c]⟩) a0) w (by omega) (fun e => by rw [e] at hlen; simp at hlen))
    have HL := Aside0.mk hlen
    clear hlen hle
    go_enter Tryd.func37, Tryd.ntmps37
    go_wp2_with fail
    refine (strings_Split.gen a0 c hs _).mono ?_; rintro e w' ⟨rfl, hw⟩; rw [hw]; clear hw
    go_wp2
    go_ret
    refine ⟨_, rfl, ?_, (Below.refl _ _).alloc (Nat.le_refl _) _⟩
    have := HO.out
    rw [HL.out] at this
    exact this
  · cases h

/-! ### strings_Cut: function 38 (my own) -/
def strings_Cut.f (a0 : ByteArray) (a1 : ByteArray) : Option (ByteArray × ByteArray × Bool) := if a1.size = 1 ∧ a0.size ≤ 9000000000000000000 then some (⟨(Lib.cut a0.data.toList a1.data.toList).1.toArray⟩, ⟨(Lib.cut a0.data.toList a1.data.toList).2.1.toArray⟩, (Lib.cut a0.data.toList a1.data.toList).2.2) else none
set_option maxRecDepth 100000 in
theorem strings_Cut.lite (s : ByteArray) (c : UInt8) (hs : s.size ≤ 9000000000000000000) (w : World) :
    Calls Tryd.prog 67 #[.string s, .string ⟨#[c]⟩] w fun e w' => e = .returned (.tuple #[.string ⟨(Lib.cut s.data.toList [c]).1.toArray⟩, .string ⟨(Lib.cut s.data.toList [c]).2.1.toArray⟩, .bool (Lib.cut s.data.toList [c]).2.2]) ∧ Drawn0 w w' := by
  have hz : (⟨#[c]⟩ : ByteArray).size = 1 := rfl
  have hone : Lib.indexB s ⟨#[c]⟩ = Lib.indexByte s.data.toList c := Lib.index_one _ _
  rcases Lib.indexB_cases s ⟨#[c]⟩ with hix | ⟨i, hix, hroom⟩
  · obtain ⟨e1, e2, e3⟩ := Lib.cutB_miss s ⟨#[c]⟩ hix
    have g1 : (Lib.cut s.data.toList [c]).1.toArray = s.data := congrArg ByteArray.data e1
    have g2 : (⟨(Lib.cut s.data.toList [c]).2.1.toArray⟩ : ByteArray) = ⟨#[]⟩ := e2
    have g3 : (Lib.cut s.data.toList [c]).2.2 = false := e3
    have H1 := Aside0.mk e1
    have H2 := Aside0.mk g2
    have H3 := Aside0.mk g3
    have HI := Aside0.mk (hone.symm.trans hix)
    clear e1 e2 e3 g1 g2 g3 hone hix
    go_enter Tryd.func67, Tryd.ntmps67
    go_wp2_with fail
    refine (Tryd.stringslite_Index_one s c _).mono ?_; rintro e w' ⟨rfl, rfl⟩
    rw [HI.out]
    go_wp2
    go_ret3
    exact ⟨by rw [H3.out, H2.out]; rw [show (⟨(Lib.cut s.data.toList [c]).1.toArray⟩ : ByteArray) = s from H1.out]; rfl, Drawn0.refl _⟩
  · obtain ⟨e1, e2, e3⟩ := Lib.cutB_hit s ⟨#[c]⟩ i hix
    have c1 : (0 : Int) ≤ ↑i := by omega
    have c2 : (↑i : Int) ≤ ↑s.size := by omega
    have c3 : (0 : Int) ≤ ↑i + 1 := by omega
    have c4 : (↑i + 1 : Int) ≤ ↑s.size := by omega
    have c5 : i ≤ s.size := by omega
    have c6 : i + 1 ≤ s.size := by omega
    have H1 := Aside0.mk e1
    have H2 := Aside0.mk e2
    have H3 := Aside0.mk e3
    have HI := Aside0.mk (hone.symm.trans hix)
    clear e1 e2 e3 hone hix
    go_enter Tryd.func67, Tryd.ntmps67
    go_wp2_with fail
    refine (Tryd.stringslite_Index_one s c _).mono ?_; rintro e w' ⟨rfl, rfl⟩
    rw [HI.out]
    go_wp2
    go_quiet (fail)
    go_wp2
    go_ret3
    exact ⟨by rw [H1.out, H2.out, H3.out]; rfl, Drawn0.step (Drawn0.refl _) _⟩
theorem strings_Cut.calls (a0 : ByteArray) (a1 : ByteArray) (r1 : ByteArray) (r2 : ByteArray) (r3 : Bool) (w : World) (h : strings_Cut.f a0 a1 = some (r1, r2, r3)) :
    Calls Tryd.prog 38 #[.string a0, .string a1] w fun e w' => e = .returned (.tuple #[.string r1, .string r2, .bool r3]) ∧ Drawn0 w w' := by
  unfold strings_Cut.f at h
  split at h
  · rename_i hb
    obtain ⟨c, rfl⟩ := Lib.one_byte a1 hb.1
    have h2 := Option.some.inj h
    obtain rfl := (Prod.mk.inj h2).1
    obtain rfl := (Prod.mk.inj (Prod.mk.inj h2).2).1
    obtain rfl := (Prod.mk.inj (Prod.mk.inj h2).2).2
    clear h h2
    have hs := hb.2
    clear hb
    go_enter Tryd.func38, Tryd.ntmps38
    go_wp2_with fail
    (with_reducible refine (strings_Cut.lite a0 c hs _).mono ?_); rintro e w' ⟨rfl, ⟨nd, rfl⟩⟩
    go_wp2
    go_ret3
    exact ⟨rfl, by repeat (first | exact Drawn0.refl _ | apply Drawn0.step)⟩
  · cases h

/-! ### desc_plainly: function 39 (my own) -/
def desc_plainly.hx (c : UInt8) : Int := Lib.indexByte desc_Escape.HEX c
theorem desc_plainly.hx_rng : ∀ c : UInt8, -1 ≤ desc_plainly.hx c ∧ desc_plainly.hx c ≤ 15 := by
  intro c
  have h : ∀ n : Fin 256, -1 ≤ desc_plainly.hx (UInt8.ofNat n.val) ∧ desc_plainly.hx (UInt8.ofNat n.val) ≤ 15 := by decide +kernel
  have := h ⟨c.toNat, c.toNat_lt⟩
  simpa using this
def desc_plainly.val (a b : UInt8) : UInt8 := UInt8.ofNat (((max (desc_plainly.hx a) 0).toNat * 16) ||| (max (desc_plainly.hx b) 0).toNat)
theorem desc_plainly.join0 : ∀ n m : Fin 16, IntKind.u8.wrap (Go.bits .or .i64 (IntKind.i64.wrap ((n.val : Int) * 16)) (m.val : Int)) = ((UInt8.ofNat ((n.val * 16) ||| m.val)).toNat : Int) := by decide +kernel
theorem desc_plainly.join (x1 x2 : Int) (h1 : -1 ≤ x1 ∧ x1 ≤ 15) (h2 : -1 ≤ x2 ∧ x2 ≤ 15) :
    IntKind.u8.wrap (Go.bits .or .i64 (IntKind.i64.wrap ((if x1 < 0 then 0 else x1) * 16)) (if x2 < 0 then 0 else x2)) = ((UInt8.ofNat (((max x1 0).toNat * 16) ||| (max x2 0).toNat)).toNat : Int) := by
  have e1 : (if x1 < 0 then 0 else x1) = (((max x1 0).toNat : Nat) : Int) := by split <;> omega
  have e2 : (if x2 < 0 then 0 else x2) = (((max x2 0).toNat : Nat) : Int) := by split <;> omega
  rw [e1, e2]
  exact desc_plainly.join0 ⟨(max x1 0).toNat, by omega⟩ ⟨(max x2 0).toNat, by omega⟩
def desc_plainly.all (l : List UInt8) : List UInt8 :=
  match l with
  | [] => []
  | c :: t => if c = 37 ∧ 2 ≤ t.length then desc_plainly.val (t.getD 0 0) (t.getD 1 0) :: desc_plainly.all (t.drop 2) else c :: desc_plainly.all t
termination_by l.length
decreasing_by all_goals (simp; try omega)
theorem desc_plainly.all_nil : desc_plainly.all [] = [] := by rw [desc_plainly.all]
theorem desc_plainly.all_plain (c : UInt8) (t : List UInt8) (h : ¬ (c = 37 ∧ 2 ≤ t.length)) : desc_plainly.all (c :: t) = c :: desc_plainly.all t := by rw [desc_plainly.all, if_neg h]
theorem desc_plainly.all_esc (a b : UInt8) (t : List UInt8) : desc_plainly.all (37 :: a :: b :: t) = desc_plainly.val a b :: desc_plainly.all t := by rw [desc_plainly.all, if_pos (by simp)]; rfl
theorem desc_plainly.drop_cons (s : ByteArray) (k : Nat) (h : k < s.size) : s.data.toList.drop k = s[k] :: s.data.toList.drop (k + 1) := by
  rw [List.drop_eq_getElem_cons (by simpa using h)]; rfl
def desc_plainly.f (a0 : ByteArray) : Option (ByteArray) := if a0.size ≤ 1099511627776 then some ⟨(desc_plainly.all a0.data.toList).toArray⟩ else none
set_option maxHeartbeats 1000000 in
set_option maxRecDepth 100000 in
theorem desc_plainly.calls (s : ByteArray) (r : ByteArray) (w : World) (h : desc_plainly.f s = some r) :
    Calls Tryd.prog 39 #[.string s] w fun e w' => e = .returned (.string r) ∧ Below w.heap.size w w' := by
  unfold desc_plainly.f at h
  split at h
  · rename_i hs
    obtain rfl := Option.some.inj h
    clear h
    have hb0 := Aside0.mk (Lib.fresh_isBuilder 60 5 w)
    go_enter Tryd.func39, Tryd.ntmps39
    go_wp2
    go_loopw [4] (fun v4 wr => ∃ (k : Nat) (acc : List UInt8), v4 = .int .i64 k ∧ k ≤ s.size ∧ acc.length ≤ k ∧ Aside0 (acc ++ desc_plainly.all (s.data.toList.drop k) = desc_plainly.all s.data.toList) ∧ Aside0 (Lib.IsBuilder 60 5 w.heap.size w.heap.size (Lib.byteCells acc) wr) ∧ Aside0 (Below w.heap.size w wr)) (fun v4 _ => s.size - (intOf v4).toNat)
    case atStart => exact ⟨0, [], rfl, Nat.zero_le _, Nat.le_refl _, ⟨rfl⟩, hb0, ⟨(Below.refl _ _).alloc (Nat.le_refl _) _⟩⟩
    case round =>
      obtain ⟨k, acc, rfl, hk, ha, HA, HB, HW⟩ := hrel
      clear hb0
      have hacc := Aside0.mk (show (Lib.byteCells acc).length ≤ 1099511627776 from by unfold Lib.byteCells; rw [List.length_map]; omega)
      by_cases hlt : k < s.size
      · have HD := Aside0.mk (desc_plainly.drop_cons s k hlt)
        by_cases hp : s[k] = 37 ∧ k + 2 < s.size
        · have HP := Aside0.mk hp.1
          have d1 : ((s[k].toNat : Int) != 37) = false := by rw [hp.1]; rfl
          have d1' : ((s[k].toNat : Int) == 37) = true := by rw [hp.1]; rfl
          have hk2 : k + 2 < s.size := hp.2
          have d2 : decide ((s.size : Int) ≤ (k : Int) + 2) = false := decide_eq_false (by omega)
          clear hp
          have i1 : (0 : Int) ≤ (k : Int) + 1 := by omega
          have i2 : (k : Int) + 1 < (s.size : Int) := by omega
          have i3 : (0 : Int) ≤ (k : Int) + 2 := by omega
          have i4 : (k : Int) + 2 < (s.size : Int) := by omega
          have j1 : IntKind.i64.wrap ((k : Int) + 1) = (k : Int) + 1 := by rw [IntKind.wrap_i64]; omega
          have j2 : IntKind.i64.wrap ((k : Int) + 2) = (k : Int) + 2 := by rw [IntKind.wrap_i64]; omega
          have j3 : ((k : Int) + 1).toNat = k + 1 := by omega
          have j4 : ((k : Int) + 2).toNat = k + 2 := by omega
          have j5 : k + 1 < s.size := by omega
          have C1 : ∀ W : World, Calls Tryd.prog 49 #[.string ⟨#[48, 49, 50, 51, 52, 53, 54, 55, 56, 57, 65, 66, 67, 68, 69, 70]⟩, .int .u8 (s[k + 1].toNat : Int)] W fun e w'' => e = .returned (.int .i64 (desc_plainly.hx s[k + 1])) ∧ w'' = W := fun W => (Tryd.strings_IndexByte _ _ W).mono (by rintro e w' ⟨rfl, rfl⟩; exact ⟨by unfold desc_plainly.hx; rw [show ((s[k + 1].toNat : Int)).toNat.toUInt8 = s[k + 1] from by rw [Int.toNat_natCast]; exact UInt8.ofNat_toNat]; rfl, rfl⟩)
          have C2 : ∀ W : World, Calls Tryd.prog 49 #[.string ⟨#[48, 49, 50, 51, 52, 53, 54, 55, 56, 57, 65, 66, 67, 68, 69, 70]⟩, .int .u8 (s[k + 2].toNat : Int)] W fun e w'' => e = .returned (.int .i64 (desc_plainly.hx s[k + 2])) ∧ w'' = W := fun W => (Tryd.strings_IndexByte _ _ W).mono (by rintro e w' ⟨rfl, rfl⟩; exact ⟨by unfold desc_plainly.hx; rw [show ((s[k + 2].toNat : Int)).toNat.toUInt8 = s[k + 2] from by rw [Int.toNat_natCast]; exact UInt8.ofNat_toNat]; rfl, rfl⟩)
          have HC1 := Aside0.mk C1
          have HC2 := Aside0.mk C2
          have r1 := desc_plainly.hx_rng s[k + 1]
          have r2 := desc_plainly.hx_rng s[k + 2]
          have HV : Aside0 (desc_plainly.val s[k + 1] s[k + 2] = UInt8.ofNat (((max (desc_plainly.hx s[k + 1]) 0).toNat * 16) ||| (max (desc_plainly.hx s[k + 2]) 0).toNat)) := ⟨rfl⟩
          clear C1 C2
          generalize desc_plainly.hx s[k + 1] = x1 at *
          generalize desc_plainly.hx s[k + 2] = x2 at *
          go_wp2
          refine wp_region_still_tail 15 (by kernel_rfl) (by kernel_rfl) ?_
          simp only [List.take_succ_cons, List.take_zero, List.drop_succ_cons, List.drop_zero]
          repeat still_step
          still_call (HC1.out _)
          repeat still_step
          still_call (HC2.out _)
          repeat still_step
          refine wpStill_nil ?_
          change wpList _ _ _ _ _ (wr.drew)
          have HN := Aside0.mk (desc_plainly.join x1 x2 r1 r2)
          have HB3 := Aside0.mk (show Lib.IsBuilder 60 5 w.heap.size w.heap.size (Lib.byteCells acc) (wr.drew) from HB.out)
          have HW3 := Aside0.mk (show Below w.heap.size w (wr.drew) from ⟨HW.out.os, HW.out.tape, HW.out.output, HW.out.size, HW.out.block⟩)
          generalize wr.drew = wz at HB3 HW3
          rw [HN.out, ← HV.out]
          generalize (if x1 < 0 then (0 : Int) else x1) = y1
          generalize (if x2 < 0 then (0 : Int) else x2) = y2
          generalize Go.bits .or .i64 (IntKind.i64.wrap (y1 * 16)) y2 = y3
          generalize IntKind.i64.wrap (y1 * 16) = y4
          clear j1 j2 r1 r2 HB HW HC1 HC2 HN
          go_wp2_with fail
          refine (Tryd.bld_WriteByte w.heap.size w.heap.size _ _ _ HB3.out (by have := hacc.out; omega) HW3.out.size).mono ?_; rintro e w2 ⟨rfl, hb2, hw2⟩
          have HB2 := Aside0.mk hb2
          have HW2 := Aside0.mk (show Below w.heap.size w w2 from HW3.out.trans ⟨hw2.os, hw2.tape, hw2.output, hw2.size, fun i hi => hw2.block i hi⟩)
          clear hb2 hw2
          go_wp2
          go_roundw
          case rel =>
            refine ⟨k + 3, acc ++ [desc_plainly.val s[k + 1] s[k + 2]], by go_num, by omega, by simp; omega, ⟨?_⟩, ⟨?_⟩, HW2⟩
            · have e := HA.out
              rw [HD.out, desc_plainly.drop_cons s (k + 1) j5, desc_plainly.drop_cons s (k + 2) hk2, HP.out, desc_plainly.all_esc] at e
              rw [List.append_assoc]; exact e
            · rw [← desc_Escape.cells_one]; exact .inr HB2.out
          case measure => simp [intOf]; omega
        · have HQ : Aside0 (desc_plainly.all (s.data.toList.drop k) = s[k] :: desc_plainly.all (s.data.toList.drop (k + 1))) := ⟨by
            rw [HD.out, desc_plainly.all_plain]
            rintro ⟨h1, h2⟩
            rw [List.length_drop] at h2
            exact hp ⟨h1, by simp at h2; omega⟩⟩
          by_cases h37 : s[k] = 37
          · have d1 : ((s[k].toNat : Int) != 37) = false := by rw [h37]; rfl
            have d1' : ((s[k].toNat : Int) == 37) = true := by rw [h37]; rfl
            have d2 : decide ((s.size : Int) ≤ (k : Int) + 2) = true := decide_eq_true (by have : ¬ k + 2 < s.size := fun h => hp ⟨h37, h⟩; omega)
            clear hp h37
            go_wp2_with fail
            refine (Tryd.bld_WriteByte w.heap.size w.heap.size _ _ _ HB.out (by have := hacc.out; omega) HW.out.size).mono ?_; rintro e w2 ⟨rfl, hb2, hw2⟩
            have HB2 := Aside0.mk hb2
            have HW2 := Aside0.mk (show Below w.heap.size w w2 from HW.out.trans ⟨hw2.os, hw2.tape, hw2.output, hw2.size, fun i hi => hw2.block i hi⟩)
            clear hb2 hw2
            go_wp2
            go_roundw
            case rel =>
              refine ⟨k + 1, acc ++ [s[k]], by go_num, by omega, by simp; omega, ⟨?_⟩, ⟨?_⟩, HW2⟩
              · have e := HA.out
                rw [HQ.out] at e
                rw [List.append_assoc]; exact e
              · rw [← desc_Escape.cells_one]; exact .inr HB2.out
            case measure => simp [intOf]; omega
          · have hne : (s[k].toNat : Int) ≠ 37 := fun h => h37 (by apply UInt8.toNat_inj.1; have e3 : (37 : UInt8).toNat = 37 := rfl; omega)
            have d1 : ((s[k].toNat : Int) != 37) = true := bne_iff_ne.2 hne
            have d1' : ((s[k].toNat : Int) == 37) = false := beq_eq_false_iff_ne.2 hne
            clear hp h37 hne
            go_wp2_with fail
            refine (Tryd.bld_WriteByte w.heap.size w.heap.size _ _ _ HB.out (by have := hacc.out; omega) HW.out.size).mono ?_; rintro e w2 ⟨rfl, hb2, hw2⟩
            have HB2 := Aside0.mk hb2
            have HW2 := Aside0.mk (show Below w.heap.size w w2 from HW.out.trans ⟨hw2.os, hw2.tape, hw2.output, hw2.size, fun i hi => hw2.block i hi⟩)
            clear hb2 hw2
            go_wp2
            go_roundw
            case rel =>
              refine ⟨k + 1, acc ++ [s[k]], by go_num, by omega, by simp; omega, ⟨?_⟩, ⟨?_⟩, HW2⟩
              · have e := HA.out
                rw [HQ.out] at e
                rw [List.append_assoc]; exact e
              · rw [← desc_Escape.cells_one]; exact .inr HB2.out
            case measure => simp [intOf]; omega
      · have e : s.data.toList.drop k = [] := List.drop_eq_nil_of_le (by simp; omega)
        have HE := Aside0.mk (show acc = desc_plainly.all s.data.toList from by have := HA.out; rw [e, desc_plainly.all_nil, List.append_nil] at this; exact this)
        clear e
        go_wp2_with fail
        refine (Tryd.bld_String w.heap.size w.heap.size _ _ HB.out HW.out.size).mono ?_; rintro e w2 ⟨rfl, hw2⟩
        have HW2 := Aside0.mk (show Below w.heap.size w w2 from HW.out.trans ⟨hw2.os, hw2.tape, hw2.output, hw2.size, fun i hi => hw2.block i hi⟩)
        clear hw2
        go_wp2
        go_ret
        exact ⟨by rw [← HE.out]; rfl, HW2.out⟩
  · cases h

end Go.Proofs.YtpemmaffbcbcjaaDoor.PKeyMakes
