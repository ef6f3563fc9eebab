-- WRITTEN BY THIS SESSION'S mprint.py upon the print: some functions are proved by hand
import Derived.Test.YtpemmaffbcbcjaaDoorPKeyApartx0
import Derived.Test.YtpemmaffbcbcjaaDoorPKeyApartx2
import Derived.Test.YtpemmaffbcbcjaaDoorPKeyApartx4
import Derived.Test.YtpemmaffbcbcjaaDoorPKeyApartx7
namespace Go.Proofs.YtpemmaffbcbcjaaDoor.PKeyApart
open Go.RowKit Go.Proofs.YtpemmaffbcbcjaaDoorW.PrintWords Go.Proofs.YtpemmaffbcbcjaaDoorW.PrintLast Go.Proofs.YtpemmaffbcbcjaaDoorW.PrintMore
attribute [local go_sem] max2_int min2_int max_two min_two max_three min_three max_four min_four   -- for this text's walks alone
set_option linter.unusedVariables false
set_option linter.unusedSimpArgs false

/-! ### turncocklaw25_KeyApart: function 10 -/
mutual
def turncocklaw25_KeyApart.j0 : Nat → ByteArray → ByteArray → Int → Int → Int → Int → Bool → List (S47) → List (S47) → Option (Bool)
  | 0, _, _, _, _, _, _, _, _, _ => none
  | k + 1, x0, x1, x4, x5, x6, x7, x38, x240000, x241000 => if x38 = true then ((turncocklaw25_awake.f k).bind fun t243 => (some t243)) else ((key_Make.f k x0 x240000 x4 x6).bind fun bt244 => ((key_Make.f k x1 x241000 x5 x7).bind fun bt247 => (if bt244.2.2 = true then (turncocklaw25_KeyApart.j1 k x0 x1 x4 x5 x6 x7 bt244.1 bt247.1 (!bt247.2.2) x240000 x241000) else (turncocklaw25_KeyApart.j1 k x0 x1 x4 x5 x6 x7 bt244.1 bt247.1 true x240000 x241000))))
def turncocklaw25_KeyApart.j1 : Nat → ByteArray → ByteArray → Int → Int → Int → Int → ByteArray → ByteArray → Bool → List (S47) → List (S47) → Option (Bool)
  | 0, _, _, _, _, _, _, _, _, _, _, _ => none
  | k + 1, x0, x1, x4, x5, x6, x7, x17, x20, x63, x240000, x241000 => if x63 = true then ((turncocklaw25_awake.f k).bind fun t250 => (some t250)) else (if x0.toList = x1.toList then ((turncockref1_SameDesc.f k x240000 x241000).bind fun t251 => (if t251 = true then (if x4 = x5 then ((turncockref15_Window.f x6 x4).bind fun t252 => ((turncockref15_Window.f x7 x5).bind fun t253 => (if ((x17.toList == x20.toList) == (t252 == t253)) = true then ((turncocklaw25_awake.f k).bind fun t254 => (some t254)) else (some false)))) else (if ((x17.toList == x20.toList) == false) = true then ((turncocklaw25_awake.f k).bind fun t255 => (some t255)) else (some false))) else (if ((x17.toList == x20.toList) == false) = true then ((turncocklaw25_awake.f k).bind fun t256 => (some t256)) else (some false)))) else (if ((x17.toList == x20.toList) == false) = true then ((turncocklaw25_awake.f k).bind fun t257 => (some t257)) else (some false)))
end
def turncocklaw25_KeyApart.f (k : Nat) (a0 : ByteArray) (a1 : ByteArray) (l2_0 : List (S47)) (l3_0 : List (S47)) (a4 : Int) (a5 : Int) (a6 : Int) (a7 : Int) : Option (Bool) := (turncocklaw25_heavy.f k l2_0).bind fun t241 => (if t241 = true then (turncocklaw25_KeyApart.j0 k a0 a1 a4 a5 a6 a7 true l2_0 l3_0) else ((turncocklaw25_heavy.f k l3_0).bind fun t242 => (if t242 = true then (turncocklaw25_KeyApart.j0 k a0 a1 a4 a5 a6 a7 true l2_0 l3_0) else (if (a0.size : Int) > 1000 then (turncocklaw25_KeyApart.j0 k a0 a1 a4 a5 a6 a7 true l2_0 l3_0) else (turncocklaw25_KeyApart.j0 k a0 a1 a4 a5 a6 a7 (decide ((a1.size : Int) > 1000)) l2_0 l3_0)))))
theorem turncocklaw25_KeyApart.mono_l : ∀ k, (∀ y0 y1 y2 y3 y4 y5 y6 y7 y8, LeO (turncocklaw25_KeyApart.j0 k y0 y1 y2 y3 y4 y5 y6 y7 y8) (turncocklaw25_KeyApart.j0 (k + 1) y0 y1 y2 y3 y4 y5 y6 y7 y8)) ∧ (∀ y0 y1 y2 y3 y4 y5 y6 y7 y8 y9 y10, LeO (turncocklaw25_KeyApart.j1 k y0 y1 y2 y3 y4 y5 y6 y7 y8 y9 y10) (turncocklaw25_KeyApart.j1 (k + 1) y0 y1 y2 y3 y4 y5 y6 y7 y8 y9 y10))
  | 0 => ⟨fun _ _ _ _ _ _ _ _ _ r h => by simp [turncocklaw25_KeyApart.j0] at h, fun _ _ _ _ _ _ _ _ _ _ _ r h => by simp [turncocklaw25_KeyApart.j1] at h⟩
  | k + 1 => by
    obtain ⟨ih0, ih1⟩ := turncocklaw25_KeyApart.mono_l k
    refine ⟨?_, ?_⟩
    · intro y0 y1 y2 y3 y4 y5 y6 y7 y8
      unfold turncocklaw25_KeyApart.j0
      repeat' first
      | (with_reducible exact ih0 _ _ _ _ _ _ _ _ _)
      | (with_reducible exact ih1 _ _ _ _ _ _ _ _ _ _ _)
      | (with_reducible exact key_Make.mono _ _ _ _ _)
      | (with_reducible exact turncocklaw25_awake.mono _)
      | (with_reducible exact turncocklaw25_heavy.mono _ _)
      | (with_reducible exact turncockref1_SameDesc.mono _ _ _)
      | (with_reducible exact LeO.refl _)
      | (with_reducible exact LeO.none _)
      | (with_reducible refine LeO.ite ?_ ?_)
      | (with_reducible refine LeO.bind ?_ (fun _ => ?_))
      | exact ih0 _ _ _ _ _ _ _ _ _
      | exact ih1 _ _ _ _ _ _ _ _ _ _ _
      | exact key_Make.mono _ _ _ _ _
      | exact turncocklaw25_awake.mono _
      | exact turncocklaw25_heavy.mono _ _
      | exact turncockref1_SameDesc.mono _ _ _
      | exact LeO.none _
      | refine LeO.ite ?_ ?_
      | refine LeO.bind ?_ (fun _ => ?_)
    · intro y0 y1 y2 y3 y4 y5 y6 y7 y8 y9 y10
      unfold turncocklaw25_KeyApart.j1
      repeat' first
      | (with_reducible exact ih0 _ _ _ _ _ _ _ _ _)
      | (with_reducible exact ih1 _ _ _ _ _ _ _ _ _ _ _)
      | (with_reducible exact key_Make.mono _ _ _ _ _)
      | (with_reducible exact turncocklaw25_awake.mono _)
      | (with_reducible exact turncocklaw25_heavy.mono _ _)
      | (with_reducible exact turncockref1_SameDesc.mono _ _ _)
      | (with_reducible exact LeO.refl _)
      | (with_reducible exact LeO.none _)
      | (with_reducible refine LeO.ite ?_ ?_)
      | (with_reducible refine LeO.bind ?_ (fun _ => ?_))
      | exact ih0 _ _ _ _ _ _ _ _ _
      | exact ih1 _ _ _ _ _ _ _ _ _ _ _
      | exact key_Make.mono _ _ _ _ _
      | exact turncocklaw25_awake.mono _
      | exact turncocklaw25_heavy.mono _ _
      | exact turncockref1_SameDesc.mono _ _ _
      | exact LeO.none _
      | refine LeO.ite ?_ ?_
      | refine LeO.bind ?_ (fun _ => ?_)
theorem turncocklaw25_KeyApart.mono : ∀ a0 a1 a2 a3 a4 a5 a6 a7 k, LeO (turncocklaw25_KeyApart.f k a0 a1 a2 a3 a4 a5 a6 a7) (turncocklaw25_KeyApart.f (k + 1) a0 a1 a2 a3 a4 a5 a6 a7) := by
  intro a0 a1 a2 a3 a4 a5 a6 a7 k
  obtain ⟨ih0, ih1⟩ := turncocklaw25_KeyApart.mono_l k
  unfold turncocklaw25_KeyApart.f
  repeat' first
      | (with_reducible exact ih0 _ _ _ _ _ _ _ _ _)
      | (with_reducible exact ih1 _ _ _ _ _ _ _ _ _ _ _)
      | (with_reducible exact key_Make.mono _ _ _ _ _)
      | (with_reducible exact turncocklaw25_awake.mono _)
      | (with_reducible exact turncocklaw25_heavy.mono _ _)
      | (with_reducible exact turncockref1_SameDesc.mono _ _ _)
      | (with_reducible exact LeO.refl _)
      | (with_reducible exact LeO.none _)
      | (with_reducible refine LeO.ite ?_ ?_)
      | (with_reducible refine LeO.bind ?_ (fun _ => ?_))
      | exact ih0 _ _ _ _ _ _ _ _ _
      | exact ih1 _ _ _ _ _ _ _ _ _ _ _
      | exact key_Make.mono _ _ _ _ _
      | exact turncocklaw25_awake.mono _
      | exact turncocklaw25_heavy.mono _ _
      | exact turncockref1_SameDesc.mono _ _ _
      | exact LeO.none _
      | refine LeO.ite ?_ ?_
      | refine LeO.bind ?_ (fun _ => ?_)
set_option maxHeartbeats 8000000 in
set_option maxRecDepth 100000 in
theorem turncocklaw25_KeyApart.calls (k : Nat) (a0 : ByteArray) (a1 : ByteArray) (A2_0 : Option Addr) (c2_0 : Nat) (l2_0 : List (S47)) (A3_0 : Option Addr) (c3_0 : Nat) (l3_0 : List (S47)) (a4 : Int) (a5 : Int) (a6 : Int) (a7 : Int) (r : Bool) (w : World) (hr2_0 : Kd.C k47 w A2_0 l2_0.length l2_0) (hc2_0 : l2_0.length ≤ c2_0) (hr3_0 : Kd.C k47 w A3_0 l3_0.length l3_0) (hc3_0 : l3_0.length ≤ c3_0) (h : turncocklaw25_KeyApart.f k a0 a1 l2_0 l3_0 a4 a5 a6 a7 = some r) (hr_ : r = true) :
    Calls Tryd.prog 10 #[.string a0, .string a1, .agg #[.slice A2_0 l2_0.length c2_0], .agg #[.slice A3_0 l3_0.length c3_0], .int .i64 a4, .int .i64 a5, .int .i64 a6, .int .i64 a7] w fun e w' => e = .returned (.bool r) ∧ Below w.heap.size w w' := by
  have hu24 := Tryd.underlying24
  have HR2_0 := Aside0.mk hr2_0
  have HC2_0 := Aside0.mk hc2_0
  clear hr2_0 hc2_0
  have HR3_0 := Aside0.mk hr3_0
  have HC3_0 := Aside0.mk hc3_0
  clear hr3_0 hc3_0
  have HB := Aside0.mk (Below.refl w.heap.size w)
  have H : ((turncocklaw25_heavy.f k l2_0).bind fun t241 => (if t241 = true then (turncocklaw25_KeyApart.j0 k a0 a1 a4 a5 a6 a7 true l2_0 l3_0) else ((turncocklaw25_heavy.f k l3_0).bind fun t242 => (if t242 = true then (turncocklaw25_KeyApart.j0 k a0 a1 a4 a5 a6 a7 true l2_0 l3_0) else (if (a0.size : Int) > 1000 then (turncocklaw25_KeyApart.j0 k a0 a1 a4 a5 a6 a7 true l2_0 l3_0) else (turncocklaw25_KeyApart.j0 k a0 a1 a4 a5 a6 a7 (decide ((a1.size : Int) > 1000)) l2_0 l3_0)))))) = some r := h
  clear h
  have HC9 := Aside0.mk H
  clear H
  go_enter Tryd.func10, Tryd.ntmps10
  go_upto_region 1 with (first | ((with_reducible refine gate_dst (N := 10) rfl ?_); (try (refine gate_guard (by rfl) ?_; dsimp only)); refine box_event ?hg (N := 10) ?hd (cs := #[.slice A2_0 l2_0.length c2_0]) (t := 24) ?hr ?_; (case hd => rfl); (case hg => rfl); (case hr => first | (go_simp; done) | (go_simp; rfl)); intro gb239 hg w10 hbox hb; have n0_ := Aside0.mk (below_step (by repeat (first | (with_reducible first | exact HB.out | apply below_alloc | apply pw_below_drewN | apply below_drew1) | exact HB.out)) hb); have n1_ := Aside0.mk (hbox); have n2_ := Aside0.mk ((by rw [hg]; exact (below_size (by repeat (first | (with_reducible first | exact HB.out | apply below_alloc | apply pw_below_drewN | apply below_drew1) | exact HB.out))) : w.heap.size ≤ gb239)); have n3_ := Aside0.mk ((by rw [hg]; exact (below_size (by repeat (first | (with_reducible first | exact HB.out | apply below_alloc | apply pw_below_drewN | apply below_drew1) | exact HB.out))) : w.heap.size ≤ gb239)); clear HB; have HB := n0_; have BK239 := n1_; have GW239 := n2_; have GE239 := n3_; clear n0_ n1_ n2_ n3_; clear hb hbox hg) | ((with_reducible refine gate_dst (N := 11) rfl ?_); (try (refine gate_guard (by rfl) ?_; dsimp only)); refine box_event ?hg (N := 11) ?hd (cs := #[.slice A3_0 l3_0.length c3_0]) (t := 24) ?hr ?_; (case hd => rfl); (case hg => rfl); (case hr => first | (go_simp; done) | (go_simp; rfl)); intro gb240 hg w11 hbox hb; have n0_ := Aside0.mk (blk_below (g := gb239) (o := .cells #[.slice A2_0 l2_0.length c2_0] 24 (0, 0)) (by (with_reducible repeat (first | refine blk_drewN ?_ _ | refine blk_drew ?_ | refine blk_alloc ?_ _)); exact BK239.out) hb); have n1_ := Aside0.mk (below_step (by repeat (first | (with_reducible first | exact HB.out | apply below_alloc | apply pw_below_drewN | apply below_drew1 | refine below_set ?_ GE239.out) | exact HB.out)) hb); have n2_ := Aside0.mk (hbox); have n3_ := Aside0.mk ((by rw [hg]; exact (below_size (by repeat (first | (with_reducible first | exact HB.out | apply below_alloc | apply pw_below_drewN | apply below_drew1 | refine below_set ?_ GE239.out) | exact HB.out))) : w.heap.size ≤ gb240)); have n4_ := Aside0.mk ((by rw [hg]; exact (below_size (by repeat (first | (with_reducible first | exact HB.out | apply below_alloc | apply pw_below_drewN | apply below_drew1 | refine below_set ?_ GE239.out) | exact HB.out))) : w.heap.size ≤ gb240)); have n5_ := Aside0.mk ((by rw [hg]; exact Nat.ne_of_lt (blk_lt (g := gb239) (o := .cells #[.slice A2_0 l2_0.length c2_0] 24 (0, 0)) (by (with_reducible repeat (first | refine blk_drewN ?_ _ | refine blk_drew ?_ | refine blk_alloc ?_ _)); exact BK239.out)) : gb239 ≠ gb240)); have n6_ := Aside0.mk ((by rw [hg]; exact Nat.ne_of_gt (blk_lt (g := gb239) (o := .cells #[.slice A2_0 l2_0.length c2_0] 24 (0, 0)) (by (with_reducible repeat (first | refine blk_drewN ?_ _ | refine blk_drew ?_ | refine blk_alloc ?_ _)); exact BK239.out)) : gb240 ≠ gb239)); clear BK239; clear HB; have BK239 := n0_; have HB := n1_; have BK240 := n2_; have GW240 := n3_; have GE240 := n4_; have NB239_240 := n5_; have NB240_239 := n6_; clear n0_ n1_ n2_ n3_ n4_ n5_ n6_; clear hb hbox hg))
  (try simp only [Act.put, List.setIfInBounds_toArray, List.set_cons_zero, List.set_cons_succ])
  go_cut [38] (fun v38 wc => ∃ (kq : Nat) (x38_8 : Bool), v38 = .bool x38_8 ∧ Aside0 (turncocklaw25_KeyApart.j0 kq a0 a1 a4 a5 a6 a7 x38_8 l2_0 l3_0 = some r) ∧ Aside0 (kq ≤ k) ∧ Aside0 (wc.heap[gb239]? = some (.cells #[(.slice A2_0 l2_0.length c2_0)] 24 (0, 0))) ∧ Aside0 (wc.heap[gb240]? = some (.cells #[(.slice A3_0 l3_0.length c3_0)] 24 (0, 0))) ∧ Aside0 (Below w.heap.size w wc))
  case first =>
    have H := HC9.out
    clear HC9
    replace H := Option.bind_eq_some_iff.mp H
    obtain ⟨t241, A120, H⟩ := H
    replace H : (if t241 = true then (turncocklaw25_KeyApart.j0 k a0 a1 a4 a5 a6 a7 true l2_0 l3_0) else ((turncocklaw25_heavy.f k l3_0).bind fun t242 => (if t242 = true then (turncocklaw25_KeyApart.j0 k a0 a1 a4 a5 a6 a7 true l2_0 l3_0) else (if (a0.size : Int) > 1000 then (turncocklaw25_KeyApart.j0 k a0 a1 a4 a5 a6 a7 true l2_0 l3_0) else (turncocklaw25_KeyApart.j0 k a0 a1 a4 a5 a6 a7 (decide ((a1.size : Int) > 1000)) l2_0 l3_0))))) = some r := H
    have A12 := Aside0.mk A120
    clear A120
    by_cases c13 : t241 = true
    · subst c13
      have H1 : (turncocklaw25_KeyApart.j0 k a0 a1 a4 a5 a6 a7 true l2_0 l3_0) = some r := by rw [if_pos rfl] at H; exact H
      clear H
      have H := H1
      clear H1
      have H' := Aside0.mk H
      clear H
      have hnb14 := NB239_240.out
      have hnc14 := NB240_239.out
      have hcz15_0 : w11.cell? ⟨gb239, 0, none⟩ = some (.slice A2_0 l2_0.length c2_0) := (blk_cell BK239.out 0).trans rfl
      have hfz15_0 := blk_frozen BK239.out 0
      go_wp2_with (first | ((with_reducible refine gate_callee (f := 27) rfl ?_); refine goesL_ (some 24) rfl rfl Tryd.func27 (by kernel_rfl) rfl #[.agg #[.slice A2_0 l2_0.length c2_0]] rfl (by (try simp only [List.map_toArray, List.map_cons, List.map_nil]); first | done | rfl | (simp only [List.length_drop, List.length_take]; rfl)) ?_; (with_reducible refine (turncocklaw25_heavy.calls k _ _ l2_0 true _ ?side1 ?side2 A12.out).mono ?_); (case side1 => repeat (first | exact (Kd.C_below HR2_0.out HB.out) | (with_reducible refine Kd.C_alloc ?_ _) | (with_reducible refine Kd.C_drewN ?_ _) | (with_reducible refine Kd.C_drew ?_))); (case side2 => exact HC2_0.out); rintro e w16 ⟨rfl, hb⟩; refine ⟨_, rfl, ?_⟩; have n0_ := Aside0.mk (blk_below (g := gb239) (o := .cells #[.slice A2_0 l2_0.length c2_0] 24 (0, 0)) (by (with_reducible repeat (first | refine blk_drewN ?_ _ | refine blk_drew ?_ | refine blk_alloc ?_ _)); exact BK239.out) hb); have n1_ := Aside0.mk (blk_below (g := gb240) (o := .cells #[.slice A3_0 l3_0.length c3_0] 24 (0, 0)) (by (with_reducible repeat (first | refine blk_drewN ?_ _ | refine blk_drew ?_ | refine blk_alloc ?_ _)); exact BK240.out) hb); have n2_ := Aside0.mk (below_step (by repeat (first | (with_reducible first | exact HB.out | apply below_alloc | apply pw_below_drewN | apply below_drew1 | refine below_set ?_ GE239.out | refine below_set ?_ GE240.out) | exact HB.out)) hb); clear BK239; clear BK240; clear HB; have BK239 := n0_; have BK240 := n1_; have HB := n2_; clear n0_ n1_ n2_; (try clear hb); (try clear hb2); (try clear hk); (try clear hi)))
      go_meet
      case rel => exact ⟨_, (true), (by first | rfl | (simp; done) | (simp [*]; done)), H', ⟨by first | omega | exact Nat.le_refl _⟩, ⟨by (with_reducible repeat (first | refine blk_drewN ?_ _ | refine blk_drew ?_ | refine blk_alloc ?_ _)); exact BK239.out⟩, ⟨by (with_reducible repeat (first | refine blk_drewN ?_ _ | refine blk_drew ?_ | refine blk_alloc ?_ _)); exact BK240.out⟩, ⟨by repeat (first | (with_reducible first | exact HB.out | apply below_alloc | apply pw_below_drewN | apply below_drew1 | refine below_set ?_ GE239.out | refine below_set ?_ GE240.out) | exact HB.out)⟩⟩
    · replace c13 := Bool.eq_false_iff.mpr c13
      subst c13
      have H1 : ((turncocklaw25_heavy.f k l3_0).bind fun t242 => (if t242 = true then (turncocklaw25_KeyApart.j0 k a0 a1 a4 a5 a6 a7 true l2_0 l3_0) else (if (a0.size : Int) > 1000 then (turncocklaw25_KeyApart.j0 k a0 a1 a4 a5 a6 a7 true l2_0 l3_0) else (turncocklaw25_KeyApart.j0 k a0 a1 a4 a5 a6 a7 (decide ((a1.size : Int) > 1000)) l2_0 l3_0)))) = some r := by rw [if_neg (show ¬ (false = true) by decide)] at H; exact H
      clear H
      have H := H1
      clear H1
      replace H := Option.bind_eq_some_iff.mp H
      obtain ⟨t242, A170, H⟩ := H
      replace H : (if t242 = true then (turncocklaw25_KeyApart.j0 k a0 a1 a4 a5 a6 a7 true l2_0 l3_0) else (if (a0.size : Int) > 1000 then (turncocklaw25_KeyApart.j0 k a0 a1 a4 a5 a6 a7 true l2_0 l3_0) else (turncocklaw25_KeyApart.j0 k a0 a1 a4 a5 a6 a7 (decide ((a1.size : Int) > 1000)) l2_0 l3_0))) = some r := H
      have A17 := Aside0.mk A170
      clear A170
      by_cases c18 : t242 = true
      · subst c18
        have H1 : (turncocklaw25_KeyApart.j0 k a0 a1 a4 a5 a6 a7 true l2_0 l3_0) = some r := by rw [if_pos rfl] at H; exact H
        clear H
        have H := H1
        clear H1
        have H' := Aside0.mk H
        clear H
        have hnb19 := NB239_240.out
        have hnc19 := NB240_239.out
        have hcz20_0 : w11.cell? ⟨gb239, 0, none⟩ = some (.slice A2_0 l2_0.length c2_0) := (blk_cell BK239.out 0).trans rfl
        have hfz20_0 := blk_frozen BK239.out 0
        go_wp2_with (first | ((with_reducible refine gate_callee (f := 27) rfl ?_); refine goesL_ (some 24) rfl rfl Tryd.func27 (by kernel_rfl) rfl #[.agg #[.slice A2_0 l2_0.length c2_0]] rfl (by (try simp only [List.map_toArray, List.map_cons, List.map_nil]); first | done | rfl | (simp only [List.length_drop, List.length_take]; rfl)) ?_; (with_reducible refine (turncocklaw25_heavy.calls k _ _ l2_0 false _ ?side1 ?side2 A12.out).mono ?_); (case side1 => repeat (first | exact (Kd.C_below HR2_0.out HB.out) | (with_reducible refine Kd.C_alloc ?_ _) | (with_reducible refine Kd.C_drewN ?_ _) | (with_reducible refine Kd.C_drew ?_))); (case side2 => exact HC2_0.out); rintro e w21 ⟨rfl, hb⟩; refine ⟨_, rfl, ?_⟩; have n0_ := Aside0.mk (blk_below (g := gb239) (o := .cells #[.slice A2_0 l2_0.length c2_0] 24 (0, 0)) (by (with_reducible repeat (first | refine blk_drewN ?_ _ | refine blk_drew ?_ | refine blk_alloc ?_ _)); exact BK239.out) hb); have n1_ := Aside0.mk (blk_below (g := gb240) (o := .cells #[.slice A3_0 l3_0.length c3_0] 24 (0, 0)) (by (with_reducible repeat (first | refine blk_drewN ?_ _ | refine blk_drew ?_ | refine blk_alloc ?_ _)); exact BK240.out) hb); have n2_ := Aside0.mk (below_step (by repeat (first | (with_reducible first | exact HB.out | apply below_alloc | apply pw_below_drewN | apply below_drew1 | refine below_set ?_ GE239.out | refine below_set ?_ GE240.out) | exact HB.out)) hb); clear BK239; clear BK240; clear HB; have BK239 := n0_; have BK240 := n1_; have HB := n2_; clear n0_ n1_ n2_; (try clear hb); (try clear hb2); (try clear hk); (try clear hi); have hcz22_0 : w21.cell? ⟨gb240, 0, none⟩ = some (.slice A3_0 l3_0.length c3_0) := (blk_cell BK240.out 0).trans rfl; have hfz22_0 := blk_frozen BK240.out 0) | (go_at_call 27; (with_reducible refine (turncocklaw25_heavy.calls k _ _ l3_0 true _ ?side1 ?side2 A17.out).mono ?_); (case side1 => repeat (first | exact (Kd.C_below HR3_0.out HB.out) | (with_reducible refine Kd.C_alloc ?_ _) | (with_reducible refine Kd.C_drewN ?_ _) | (with_reducible refine Kd.C_drew ?_))); (case side2 => exact HC3_0.out); rintro e w23 ⟨rfl, hb⟩; have n0_ := Aside0.mk (blk_below (g := gb239) (o := .cells #[.slice A2_0 l2_0.length c2_0] 24 (0, 0)) (by (with_reducible repeat (first | refine blk_drewN ?_ _ | refine blk_drew ?_ | refine blk_alloc ?_ _)); exact BK239.out) hb); have n1_ := Aside0.mk (blk_below (g := gb240) (o := .cells #[.slice A3_0 l3_0.length c3_0] 24 (0, 0)) (by (with_reducible repeat (first | refine blk_drewN ?_ _ | refine blk_drew ?_ | refine blk_alloc ?_ _)); exact BK240.out) hb); have n2_ := Aside0.mk (below_step (by repeat (first | (with_reducible first | exact HB.out | apply below_alloc | apply pw_below_drewN | apply below_drew1 | refine below_set ?_ GE239.out | refine below_set ?_ GE240.out) | exact HB.out)) hb); clear BK239; clear BK240; clear HB; have BK239 := n0_; have BK240 := n1_; have HB := n2_; clear n0_ n1_ n2_; (try clear hb); (try clear hb2); (try clear hk); (try clear hi)))
        go_meet
        case rel => exact ⟨_, (true), (by first | rfl | (simp; done) | (simp [*]; done)), H', ⟨by first | omega | exact Nat.le_refl _⟩, ⟨by (with_reducible repeat (first | refine blk_drewN ?_ _ | refine blk_drew ?_ | refine blk_alloc ?_ _)); exact BK239.out⟩, ⟨by (with_reducible repeat (first | refine blk_drewN ?_ _ | refine blk_drew ?_ | refine blk_alloc ?_ _)); exact BK240.out⟩, ⟨by repeat (first | (with_reducible first | exact HB.out | apply below_alloc | apply pw_below_drewN | apply below_drew1 | refine below_set ?_ GE239.out | refine below_set ?_ GE240.out) | exact HB.out)⟩⟩
      · replace c18 := Bool.eq_false_iff.mpr c18
        subst c18
        have H1 : (if (a0.size : Int) > 1000 then (turncocklaw25_KeyApart.j0 k a0 a1 a4 a5 a6 a7 true l2_0 l3_0) else (turncocklaw25_KeyApart.j0 k a0 a1 a4 a5 a6 a7 (decide ((a1.size : Int) > 1000)) l2_0 l3_0)) = some r := by rw [if_neg (show ¬ (false = true) by decide)] at H; exact H
        clear H
        have H := H1
        clear H1
        by_cases c24 : (a0.size : Int) > 1000
        · rw [if_pos c24] at H
          have c24b0 : decide (1000 < (a0.size : Int)) = true := decide_eq_true c24
          have c24b1 : decide (1000 < a0.size) = true := decide_eq_true (by omega)
          clear c24
          (first | rw [c24b0] | (simp only [i64_w, i32_w]; rw [c24b0]) | skip)
          have H' := Aside0.mk H
          clear H
          have hnb25 := NB239_240.out
          have hnc25 := NB240_239.out
          have hcz26_0 : w11.cell? ⟨gb239, 0, none⟩ = some (.slice A2_0 l2_0.length c2_0) := (blk_cell BK239.out 0).trans rfl
          have hfz26_0 := blk_frozen BK239.out 0
          go_wp2_with (first | ((with_reducible refine gate_callee (f := 27) rfl ?_); refine goesL_ (some 24) rfl rfl Tryd.func27 (by kernel_rfl) rfl #[.agg #[.slice A2_0 l2_0.length c2_0]] rfl (by (try simp only [List.map_toArray, List.map_cons, List.map_nil]); first | done | rfl | (simp only [List.length_drop, List.length_take]; rfl)) ?_; (with_reducible refine (turncocklaw25_heavy.calls k _ _ l2_0 false _ ?side1 ?side2 A12.out).mono ?_); (case side1 => repeat (first | exact (Kd.C_below HR2_0.out HB.out) | (with_reducible refine Kd.C_alloc ?_ _) | (with_reducible refine Kd.C_drewN ?_ _) | (with_reducible refine Kd.C_drew ?_))); (case side2 => exact HC2_0.out); rintro e w27 ⟨rfl, hb⟩; refine ⟨_, rfl, ?_⟩; have n0_ := Aside0.mk (blk_below (g := gb239) (o := .cells #[.slice A2_0 l2_0.length c2_0] 24 (0, 0)) (by (with_reducible repeat (first | refine blk_drewN ?_ _ | refine blk_drew ?_ | refine blk_alloc ?_ _)); exact BK239.out) hb); have n1_ := Aside0.mk (blk_below (g := gb240) (o := .cells #[.slice A3_0 l3_0.length c3_0] 24 (0, 0)) (by (with_reducible repeat (first | refine blk_drewN ?_ _ | refine blk_drew ?_ | refine blk_alloc ?_ _)); exact BK240.out) hb); have n2_ := Aside0.mk (below_step (by repeat (first | (with_reducible first | exact HB.out | apply below_alloc | apply pw_below_drewN | apply below_drew1 | refine below_set ?_ GE239.out | refine below_set ?_ GE240.out) | exact HB.out)) hb); clear BK239; clear BK240; clear HB; have BK239 := n0_; have BK240 := n1_; have HB := n2_; clear n0_ n1_ n2_; (try clear hb); (try clear hb2); (try clear hk); (try clear hi); have hcz28_0 : w27.cell? ⟨gb240, 0, none⟩ = some (.slice A3_0 l3_0.length c3_0) := (blk_cell BK240.out 0).trans rfl; have hfz28_0 := blk_frozen BK240.out 0) | (go_at_call 27; (with_reducible refine (turncocklaw25_heavy.calls k _ _ l3_0 false _ ?side1 ?side2 A17.out).mono ?_); (case side1 => repeat (first | exact (Kd.C_below HR3_0.out HB.out) | (with_reducible refine Kd.C_alloc ?_ _) | (with_reducible refine Kd.C_drewN ?_ _) | (with_reducible refine Kd.C_drew ?_))); (case side2 => exact HC3_0.out); rintro e w29 ⟨rfl, hb⟩; have n0_ := Aside0.mk (blk_below (g := gb239) (o := .cells #[.slice A2_0 l2_0.length c2_0] 24 (0, 0)) (by (with_reducible repeat (first | refine blk_drewN ?_ _ | refine blk_drew ?_ | refine blk_alloc ?_ _)); exact BK239.out) hb); have n1_ := Aside0.mk (blk_below (g := gb240) (o := .cells #[.slice A3_0 l3_0.length c3_0] 24 (0, 0)) (by (with_reducible repeat (first | refine blk_drewN ?_ _ | refine blk_drew ?_ | refine blk_alloc ?_ _)); exact BK240.out) hb); have n2_ := Aside0.mk (below_step (by repeat (first | (with_reducible first | exact HB.out | apply below_alloc | apply pw_below_drewN | apply below_drew1 | refine below_set ?_ GE239.out | refine below_set ?_ GE240.out) | exact HB.out)) hb); clear BK239; clear BK240; clear HB; have BK239 := n0_; have BK240 := n1_; have HB := n2_; clear n0_ n1_ n2_; (try clear hb); (try clear hb2); (try clear hk); (try clear hi)))
          go_meet
          case rel => exact ⟨_, (true), (by first | rfl | (simp; done) | (simp [*]; done)), H', ⟨by first | omega | exact Nat.le_refl _⟩, ⟨by (with_reducible repeat (first | refine blk_drewN ?_ _ | refine blk_drew ?_ | refine blk_alloc ?_ _)); exact BK239.out⟩, ⟨by (with_reducible repeat (first | refine blk_drewN ?_ _ | refine blk_drew ?_ | refine blk_alloc ?_ _)); exact BK240.out⟩, ⟨by repeat (first | (with_reducible first | exact HB.out | apply below_alloc | apply pw_below_drewN | apply below_drew1 | refine below_set ?_ GE239.out | refine below_set ?_ GE240.out) | exact HB.out)⟩⟩
        · rw [if_neg c24] at H
          have c24b0 : decide (1000 < (a0.size : Int)) = false := decide_eq_false c24
          have c24b1 : decide (1000 < a0.size) = false := decide_eq_false (by omega)
          clear c24
          (first | rw [c24b0] | (simp only [i64_w, i32_w]; rw [c24b0]) | skip)
          have H' := Aside0.mk H
          clear H
          have hnb30 := NB239_240.out
          have hnc30 := NB240_239.out
          have hcz31_0 : w11.cell? ⟨gb239, 0, none⟩ = some (.slice A2_0 l2_0.length c2_0) := (blk_cell BK239.out 0).trans rfl
          have hfz31_0 := blk_frozen BK239.out 0
          go_wp2_with (first | ((with_reducible refine gate_callee (f := 27) rfl ?_); refine goesL_ (some 24) rfl rfl Tryd.func27 (by kernel_rfl) rfl #[.agg #[.slice A2_0 l2_0.length c2_0]] rfl (by (try simp only [List.map_toArray, List.map_cons, List.map_nil]); first | done | rfl | (simp only [List.length_drop, List.length_take]; rfl)) ?_; (with_reducible refine (turncocklaw25_heavy.calls k _ _ l2_0 false _ ?side1 ?side2 A12.out).mono ?_); (case side1 => repeat (first | exact (Kd.C_below HR2_0.out HB.out) | (with_reducible refine Kd.C_alloc ?_ _) | (with_reducible refine Kd.C_drewN ?_ _) | (with_reducible refine Kd.C_drew ?_))); (case side2 => exact HC2_0.out); rintro e w32 ⟨rfl, hb⟩; refine ⟨_, rfl, ?_⟩; have n0_ := Aside0.mk (blk_below (g := gb239) (o := .cells #[.slice A2_0 l2_0.length c2_0] 24 (0, 0)) (by (with_reducible repeat (first | refine blk_drewN ?_ _ | refine blk_drew ?_ | refine blk_alloc ?_ _)); exact BK239.out) hb); have n1_ := Aside0.mk (blk_below (g := gb240) (o := .cells #[.slice A3_0 l3_0.length c3_0] 24 (0, 0)) (by (with_reducible repeat (first | refine blk_drewN ?_ _ | refine blk_drew ?_ | refine blk_alloc ?_ _)); exact BK240.out) hb); have n2_ := Aside0.mk (below_step (by repeat (first | (with_reducible first | exact HB.out | apply below_alloc | apply pw_below_drewN | apply below_drew1 | refine below_set ?_ GE239.out | refine below_set ?_ GE240.out) | exact HB.out)) hb); clear BK239; clear BK240; clear HB; have BK239 := n0_; have BK240 := n1_; have HB := n2_; clear n0_ n1_ n2_; (try clear hb); (try clear hb2); (try clear hk); (try clear hi); have hcz33_0 : w32.cell? ⟨gb240, 0, none⟩ = some (.slice A3_0 l3_0.length c3_0) := (blk_cell BK240.out 0).trans rfl; have hfz33_0 := blk_frozen BK240.out 0) | (go_at_call 27; (with_reducible refine (turncocklaw25_heavy.calls k _ _ l3_0 false _ ?side1 ?side2 A17.out).mono ?_); (case side1 => repeat (first | exact (Kd.C_below HR3_0.out HB.out) | (with_reducible refine Kd.C_alloc ?_ _) | (with_reducible refine Kd.C_drewN ?_ _) | (with_reducible refine Kd.C_drew ?_))); (case side2 => exact HC3_0.out); rintro e w34 ⟨rfl, hb⟩; have n0_ := Aside0.mk (blk_below (g := gb239) (o := .cells #[.slice A2_0 l2_0.length c2_0] 24 (0, 0)) (by (with_reducible repeat (first | refine blk_drewN ?_ _ | refine blk_drew ?_ | refine blk_alloc ?_ _)); exact BK239.out) hb); have n1_ := Aside0.mk (blk_below (g := gb240) (o := .cells #[.slice A3_0 l3_0.length c3_0] 24 (0, 0)) (by (with_reducible repeat (first | refine blk_drewN ?_ _ | refine blk_drew ?_ | refine blk_alloc ?_ _)); exact BK240.out) hb); have n2_ := Aside0.mk (below_step (by repeat (first | (with_reducible first | exact HB.out | apply below_alloc | apply pw_below_drewN | apply below_drew1 | refine below_set ?_ GE239.out | refine below_set ?_ GE240.out) | exact HB.out)) hb); clear BK239; clear BK240; clear HB; have BK239 := n0_; have BK240 := n1_; have HB := n2_; clear n0_ n1_ n2_; (try clear hb); (try clear hb2); (try clear hk); (try clear hi)))
          go_meet
          case rel => exact ⟨_, (decide ((a1.size : Int) > 1000)), (by first | rfl | (simp; done) | (simp [*]; done)), H', ⟨by first | omega | exact Nat.le_refl _⟩, ⟨by (with_reducible repeat (first | refine blk_drewN ?_ _ | refine blk_drew ?_ | refine blk_alloc ?_ _)); exact BK239.out⟩, ⟨by (with_reducible repeat (first | refine blk_drewN ?_ _ | refine blk_drew ?_ | refine blk_alloc ?_ _)); exact BK240.out⟩, ⟨by repeat (first | (with_reducible first | exact HB.out | apply below_alloc | apply pw_below_drewN | apply below_drew1 | refine below_set ?_ GE239.out | refine below_set ?_ GE240.out) | exact HB.out)⟩⟩
  case rest =>
    clear HC9
    try clear c1
    try clear c2
    try clear p2
    try clear c3
    try clear c10
    try clear c13
    try clear c14
    try clear c18
    try clear c19
    try clear c24
    try clear c24b0
    try clear c24b1
    try clear c25
    try clear c27
    try clear c30
    try clear hcz15_0
    try clear hcz20_0
    try clear hcz22_0
    try clear hcz26_0
    try clear hcz28_0
    try clear hcz31_0
    try clear hcz33_0
    try clear hfz15_0
    try clear hfz20_0
    try clear hfz22_0
    try clear hfz26_0
    try clear hfz28_0
    try clear hfz31_0
    try clear hfz33_0
    obtain ⟨kq, x38_8, rfl, HA, HJ8, BK239, BK240, HB⟩ := hcut
    cases kq with
    | zero => exact absurd HA.out (by simp [turncocklaw25_KeyApart.j0])
    | succ kj8 =>
      have H := HA.out
      clear HA
      simp only [turncocklaw25_KeyApart.j0] at H
      by_cases c35 : x38_8 = true
      · subst c35
        have H1 : ((turncocklaw25_awake.f kj8).bind fun t243 => (some t243)) = some r := by rw [if_pos rfl] at H; exact H
        clear H
        have H := H1
        clear H1
        replace H := Option.bind_eq_some_iff.mp H
        obtain ⟨t243, A360, H⟩ := H
        replace H : (some t243) = some r := H
        have A36 := Aside0.mk A360
        clear A360
        first
          | exact absurd ((Option.some.inj H).trans hr_) (by decide)
          | (obtain rfl := Option.some.inj H
             clear hr_
             go_wp2_with (first | ((with_reducible refine gate_callee (f := 28) rfl ?_); refine goesL_ (some 39) rfl rfl Tryd.func28 (by kernel_rfl) rfl #[] rfl (by (try simp only [List.map_toArray, List.map_cons, List.map_nil]); first | done | rfl | (simp only [List.length_drop, List.length_take]; rfl)) ?_; (with_reducible refine (turncocklaw25_awake.calls kj8  t243 _ A36.out).mono ?_); rintro e w37 ⟨rfl, hb⟩; refine ⟨_, rfl, ?_⟩; have n0_ := Aside0.mk (blk_below (g := gb239) (o := .cells #[.slice A2_0 l2_0.length c2_0] 24 (0, 0)) (by (with_reducible repeat (first | refine blk_drewN ?_ _ | refine blk_drew ?_ | refine blk_alloc ?_ _)); exact BK239.out) hb); have n1_ := Aside0.mk (blk_below (g := gb240) (o := .cells #[.slice A3_0 l3_0.length c3_0] 24 (0, 0)) (by (with_reducible repeat (first | refine blk_drewN ?_ _ | refine blk_drew ?_ | refine blk_alloc ?_ _)); exact BK240.out) hb); have n2_ := Aside0.mk (below_step (by repeat (first | (with_reducible first | exact HB.out | apply below_alloc | apply pw_below_drewN | apply below_drew1 | refine below_set ?_ GE239.out | refine below_set ?_ GE240.out) | exact HB.out)) hb); clear BK239; clear BK240; clear HB; have BK239 := n0_; have BK240 := n1_; have HB := n2_; clear n0_ n1_ n2_; (try clear hb); (try clear hb2); (try clear hk); (try clear hi)))
             go_ret
             exact ⟨by first | rfl | (simp [errW_none, errW_some] <;> rfl) | (simp [*, errW_none, errW_some] <;> rfl), by repeat (first | (with_reducible first | exact HB.out | apply below_alloc | apply pw_below_drewN | apply below_drew1 | refine below_set ?_ GE239.out | refine below_set ?_ GE240.out) | exact HB.out)⟩)
      · replace c35 := Bool.eq_false_iff.mpr c35
        subst c35
        have H1 : ((key_Make.f kj8 a0 l2_0 a4 a6).bind fun bt244 => ((key_Make.f kj8 a1 l3_0 a5 a7).bind fun bt247 => (if bt244.2.2 = true then (turncocklaw25_KeyApart.j1 kj8 a0 a1 a4 a5 a6 a7 bt244.1 bt247.1 (!bt247.2.2) l2_0 l3_0) else (turncocklaw25_KeyApart.j1 kj8 a0 a1 a4 a5 a6 a7 bt244.1 bt247.1 true l2_0 l3_0)))) = some r := by rw [if_neg (show ¬ (false = true) by decide)] at H; exact H
        clear H
        have H := H1
        clear H1
        replace H := Option.bind_eq_some_iff.mp H
        obtain ⟨⟨t244, t245, t246⟩, A380, H⟩ := H
        replace H : ((key_Make.f kj8 a1 l3_0 a5 a7).bind fun bt247 => (if t246 = true then (turncocklaw25_KeyApart.j1 kj8 a0 a1 a4 a5 a6 a7 t244 bt247.1 (!bt247.2.2) l2_0 l3_0) else (turncocklaw25_KeyApart.j1 kj8 a0 a1 a4 a5 a6 a7 t244 bt247.1 true l2_0 l3_0))) = some r := H
        have A38 := Aside0.mk A380
        clear A380
        replace H := Option.bind_eq_some_iff.mp H
        obtain ⟨⟨t247, t248, t249⟩, A390, H⟩ := H
        replace H : (if t246 = true then (turncocklaw25_KeyApart.j1 kj8 a0 a1 a4 a5 a6 a7 t244 t247 (!t249) l2_0 l3_0) else (turncocklaw25_KeyApart.j1 kj8 a0 a1 a4 a5 a6 a7 t244 t247 true l2_0 l3_0)) = some r := H
        have A39 := Aside0.mk A390
        clear A390
        have HC40 := Aside0.mk H
        clear H
        have hnb41 := NB239_240.out
        have hnc41 := NB240_239.out
        have hcz42_0 : wc.cell? ⟨gb239, 0, none⟩ = some (.slice A2_0 l2_0.length c2_0) := (blk_cell BK239.out 0).trans rfl
        have hfz42_0 := blk_frozen BK239.out 0
        go_upto_region 5 with (first | ((with_reducible refine gate_callee (f := 29) rfl ?_); refine goesL_ (some 45) rfl rfl Tryd.func29 (by kernel_rfl) rfl #[.string a0, .agg #[.slice A2_0 l2_0.length c2_0], .int .i64 a4, .int .i64 a6] rfl (by (try simp only [List.map_toArray, List.map_cons, List.map_nil]); first | done | rfl | (simp only [List.length_drop, List.length_take]; rfl)) ?_; (with_reducible refine (key_Make.calls kj8 a0 _ _ l2_0 a4 a6 t244 t245 t246 _ ?side1 ?side2 A38.out).mono ?_); (case side1 => repeat (first | exact (Kd.C_below HR2_0.out HB.out) | (with_reducible refine Kd.C_alloc ?_ _) | (with_reducible refine Kd.C_drewN ?_ _) | (with_reducible refine Kd.C_drew ?_))); (case side2 => exact HC2_0.out); rintro e w43 ⟨rfl, hb⟩; refine ⟨_, rfl, ?_⟩; have n0_ := Aside0.mk (blk_below (g := gb239) (o := .cells #[.slice A2_0 l2_0.length c2_0] 24 (0, 0)) (by (with_reducible repeat (first | refine blk_drewN ?_ _ | refine blk_drew ?_ | refine blk_alloc ?_ _)); exact BK239.out) hb); have n1_ := Aside0.mk (blk_below (g := gb240) (o := .cells #[.slice A3_0 l3_0.length c3_0] 24 (0, 0)) (by (with_reducible repeat (first | refine blk_drewN ?_ _ | refine blk_drew ?_ | refine blk_alloc ?_ _)); exact BK240.out) hb); have n2_ := Aside0.mk (below_step (by repeat (first | (with_reducible first | exact HB.out | apply below_alloc | apply pw_below_drewN | apply below_drew1 | refine below_set ?_ GE239.out | refine below_set ?_ GE240.out) | exact HB.out)) hb); clear BK239; clear BK240; clear HB; have BK239 := n0_; have BK240 := n1_; have HB := n2_; clear n0_ n1_ n2_; (try clear hb); (try clear hb2); (try clear hk); (try clear hi); have hcz44_0 : w43.cell? ⟨gb240, 0, none⟩ = some (.slice A3_0 l3_0.length c3_0) := (blk_cell BK240.out 0).trans rfl; have hfz44_0 := blk_frozen BK240.out 0) | ((with_reducible refine gate_callee (f := 29) rfl ?_); refine goesL_ (some 54) rfl rfl Tryd.func29 (by kernel_rfl) rfl #[.string a1, .agg #[.slice A3_0 l3_0.length c3_0], .int .i64 a5, .int .i64 a7] rfl (by (try simp only [List.map_toArray, List.map_cons, List.map_nil]); first | done | rfl | (simp only [List.length_drop, List.length_take]; rfl)) ?_; (with_reducible refine (key_Make.calls kj8 a1 _ _ l3_0 a5 a7 t247 t248 t249 _ ?side1 ?side2 A39.out).mono ?_); (case side1 => repeat (first | exact (Kd.C_below HR3_0.out HB.out) | (with_reducible refine Kd.C_alloc ?_ _) | (with_reducible refine Kd.C_drewN ?_ _) | (with_reducible refine Kd.C_drew ?_))); (case side2 => exact HC3_0.out); rintro e w45 ⟨rfl, hb⟩; refine ⟨_, rfl, ?_⟩; have n0_ := Aside0.mk (blk_below (g := gb239) (o := .cells #[.slice A2_0 l2_0.length c2_0] 24 (0, 0)) (by (with_reducible repeat (first | refine blk_drewN ?_ _ | refine blk_drew ?_ | refine blk_alloc ?_ _)); exact BK239.out) hb); have n1_ := Aside0.mk (blk_below (g := gb240) (o := .cells #[.slice A3_0 l3_0.length c3_0] 24 (0, 0)) (by (with_reducible repeat (first | refine blk_drewN ?_ _ | refine blk_drew ?_ | refine blk_alloc ?_ _)); exact BK240.out) hb); have n2_ := Aside0.mk (below_step (by repeat (first | (with_reducible first | exact HB.out | apply below_alloc | apply pw_below_drewN | apply below_drew1 | refine below_set ?_ GE239.out | refine below_set ?_ GE240.out) | exact HB.out)) hb); clear BK239; clear BK240; clear HB; have BK239 := n0_; have BK240 := n1_; have HB := n2_; clear n0_ n1_ n2_; (try clear hb); (try clear hb2); (try clear hk); (try clear hi)))
        (try simp only [Act.put, List.setIfInBounds_toArray, List.set_cons_zero, List.set_cons_succ])
        go_cut [63] (fun v63 wc => ∃ (kq : Nat) (x63_39 : Bool), v63 = .bool x63_39 ∧ Aside0 (turncocklaw25_KeyApart.j1 kq a0 a1 a4 a5 a6 a7 t244 t247 x63_39 l2_0 l3_0 = some r) ∧ Aside0 (kq ≤ kj8) ∧ Aside0 (wc.heap[gb239]? = some (.cells #[(.slice A2_0 l2_0.length c2_0)] 24 (0, 0))) ∧ Aside0 (wc.heap[gb240]? = some (.cells #[(.slice A3_0 l3_0.length c3_0)] 24 (0, 0))) ∧ Aside0 (Below w.heap.size w wc))
        case first =>
          have H := HC40.out
          clear HC40
          by_cases c46 : t246 = true
          · subst c46
            have H1 : (turncocklaw25_KeyApart.j1 kj8 a0 a1 a4 a5 a6 a7 t244 t247 (!t249) l2_0 l3_0) = some r := by rw [if_pos rfl] at H; exact H
            clear H
            have H := H1
            clear H1
            have H' := Aside0.mk H
            clear H
            go_wp2
            go_meet
            case rel => exact ⟨_, (!t249), (by first | rfl | (simp; done) | (simp [*]; done)), H', ⟨by have := HJ8.out; first | omega | exact Nat.le_refl _⟩, ⟨by (with_reducible repeat (first | refine blk_drewN ?_ _ | refine blk_drew ?_ | refine blk_alloc ?_ _)); exact BK239.out⟩, ⟨by (with_reducible repeat (first | refine blk_drewN ?_ _ | refine blk_drew ?_ | refine blk_alloc ?_ _)); exact BK240.out⟩, ⟨by repeat (first | (with_reducible first | exact HB.out | apply below_alloc | apply pw_below_drewN | apply below_drew1 | refine below_set ?_ GE239.out | refine below_set ?_ GE240.out) | exact HB.out)⟩⟩
          · replace c46 := Bool.eq_false_iff.mpr c46
            subst c46
            have H1 : (turncocklaw25_KeyApart.j1 kj8 a0 a1 a4 a5 a6 a7 t244 t247 true l2_0 l3_0) = some r := by rw [if_neg (show ¬ (false = true) by decide)] at H; exact H
            clear H
            have H := H1
            clear H1
            have H' := Aside0.mk H
            clear H
            go_wp2
            go_meet
            case rel => exact ⟨_, (true), (by first | rfl | (simp; done) | (simp [*]; done)), H', ⟨by have := HJ8.out; first | omega | exact Nat.le_refl _⟩, ⟨by (with_reducible repeat (first | refine blk_drewN ?_ _ | refine blk_drew ?_ | refine blk_alloc ?_ _)); exact BK239.out⟩, ⟨by (with_reducible repeat (first | refine blk_drewN ?_ _ | refine blk_drew ?_ | refine blk_alloc ?_ _)); exact BK240.out⟩, ⟨by repeat (first | (with_reducible first | exact HB.out | apply below_alloc | apply pw_below_drewN | apply below_drew1 | refine below_set ?_ GE239.out | refine below_set ?_ GE240.out) | exact HB.out)⟩⟩
        case rest =>
          clear HC40
          try clear c1
          try clear c2
          try clear p2
          try clear c3
          try clear c4
          try clear c10
          try clear c13
          try clear c14
          try clear c18
          try clear c19
          try clear c24
          try clear c24b0
          try clear c24b1
          try clear c25
          try clear c27
          try clear c28
          try clear c29
          try clear c30
          try clear c35
          try clear c41
          try clear c46
          try clear hcz15_0
          try clear hcz20_0
          try clear hcz22_0
          try clear hcz26_0
          try clear hcz28_0
          try clear hcz31_0
          try clear hcz33_0
          try clear hcz42_0
          try clear hcz44_0
          try clear hfz15_0
          try clear hfz20_0
          try clear hfz22_0
          try clear hfz26_0
          try clear hfz28_0
          try clear hfz31_0
          try clear hfz33_0
          try clear hfz42_0
          try clear hfz44_0
          try clear p2
          obtain ⟨kq, x63_39, rfl, HA, HJ39, BK239, BK240, HB⟩ := hcut
          cases kq with
          | zero => exact absurd HA.out (by simp [turncocklaw25_KeyApart.j1])
          | succ kj39 =>
            have H := HA.out
            clear HA
            simp only [turncocklaw25_KeyApart.j1] at H
            by_cases c47 : x63_39 = true
            · subst c47
              have H1 : ((turncocklaw25_awake.f kj39).bind fun t250 => (some t250)) = some r := by rw [if_pos rfl] at H; exact H
              clear H
              have H := H1
              clear H1
              replace H := Option.bind_eq_some_iff.mp H
              obtain ⟨t250, A480, H⟩ := H
              replace H : (some t250) = some r := H
              have A48 := Aside0.mk A480
              clear A480
              first
                | exact absurd ((Option.some.inj H).trans hr_) (by decide)
                | (obtain rfl := Option.some.inj H
                   clear hr_
                   go_wp2_with (first | ((with_reducible refine gate_callee (f := 28) rfl ?_); refine goesL_ (some 64) rfl rfl Tryd.func28 (by kernel_rfl) rfl #[] rfl (by (try simp only [List.map_toArray, List.map_cons, List.map_nil]); first | done | rfl | (simp only [List.length_drop, List.length_take]; rfl)) ?_; (with_reducible refine (turncocklaw25_awake.calls kj39  t250 _ A48.out).mono ?_); rintro e w49 ⟨rfl, hb⟩; refine ⟨_, rfl, ?_⟩; have n0_ := Aside0.mk (blk_below (g := gb239) (o := .cells #[.slice A2_0 l2_0.length c2_0] 24 (0, 0)) (by (with_reducible repeat (first | refine blk_drewN ?_ _ | refine blk_drew ?_ | refine blk_alloc ?_ _)); exact BK239.out) hb); have n1_ := Aside0.mk (blk_below (g := gb240) (o := .cells #[.slice A3_0 l3_0.length c3_0] 24 (0, 0)) (by (with_reducible repeat (first | refine blk_drewN ?_ _ | refine blk_drew ?_ | refine blk_alloc ?_ _)); exact BK240.out) hb); have n2_ := Aside0.mk (below_step (by repeat (first | (with_reducible first | exact HB.out | apply below_alloc | apply pw_below_drewN | apply below_drew1 | refine below_set ?_ GE239.out | refine below_set ?_ GE240.out) | exact HB.out)) hb); clear BK239; clear BK240; clear HB; have BK239 := n0_; have BK240 := n1_; have HB := n2_; clear n0_ n1_ n2_; (try clear hb); (try clear hb2); (try clear hk); (try clear hi)))
                   go_ret
                   exact ⟨by first | rfl | (simp [errW_none, errW_some] <;> rfl) | (simp [*, errW_none, errW_some] <;> rfl), by repeat (first | (with_reducible first | exact HB.out | apply below_alloc | apply pw_below_drewN | apply below_drew1 | refine below_set ?_ GE239.out | refine below_set ?_ GE240.out) | exact HB.out)⟩)
            · replace c47 := Bool.eq_false_iff.mpr c47
              subst c47
              have H1 : (if a0.toList = a1.toList then ((turncockref1_SameDesc.f kj39 l2_0 l3_0).bind fun t251 => (if t251 = true then (if a4 = a5 then ((turncockref15_Window.f a6 a4).bind fun t252 => ((turncockref15_Window.f a7 a5).bind fun t253 => (if ((t244.toList == t247.toList) == (t252 == t253)) = true then ((turncocklaw25_awake.f kj39).bind fun t254 => (some t254)) else (some false)))) else (if ((t244.toList == t247.toList) == false) = true then ((turncocklaw25_awake.f kj39).bind fun t255 => (some t255)) else (some false))) else (if ((t244.toList == t247.toList) == false) = true then ((turncocklaw25_awake.f kj39).bind fun t256 => (some t256)) else (some false)))) else (if ((t244.toList == t247.toList) == false) = true then ((turncocklaw25_awake.f kj39).bind fun t257 => (some t257)) else (some false))) = some r := by rw [if_neg (show ¬ (false = true) by decide)] at H; exact H
              clear H
              have H := H1
              clear H1
              by_cases c50 : a0.toList = a1.toList
              · rw [if_pos c50] at H
                have c50b0 : (a0.toList == a1.toList) = true := beq_iff_eq.mpr c50
                have c50b1 : (a0.toList != a1.toList) = false := bne_eq_false_iff_eq.mpr c50
                clear c50
                replace H := Option.bind_eq_some_iff.mp H
                obtain ⟨t251, A510, H⟩ := H
                replace H : (if t251 = true then (if a4 = a5 then ((turncockref15_Window.f a6 a4).bind fun t252 => ((turncockref15_Window.f a7 a5).bind fun t253 => (if ((t244.toList == t247.toList) == (t252 == t253)) = true then ((turncocklaw25_awake.f kj39).bind fun t254 => (some t254)) else (some false)))) else (if ((t244.toList == t247.toList) == false) = true then ((turncocklaw25_awake.f kj39).bind fun t255 => (some t255)) else (some false))) else (if ((t244.toList == t247.toList) == false) = true then ((turncocklaw25_awake.f kj39).bind fun t256 => (some t256)) else (some false))) = some r := H
                have A51 := Aside0.mk A510
                clear A510
                by_cases c52 : t251 = true
                · subst c52
                  have H1 : (if a4 = a5 then ((turncockref15_Window.f a6 a4).bind fun t252 => ((turncockref15_Window.f a7 a5).bind fun t253 => (if ((t244.toList == t247.toList) == (t252 == t253)) = true then ((turncocklaw25_awake.f kj39).bind fun t254 => (some t254)) else (some false)))) else (if ((t244.toList == t247.toList) == false) = true then ((turncocklaw25_awake.f kj39).bind fun t255 => (some t255)) else (some false))) = some r := by rw [if_pos rfl] at H; exact H
                  clear H
                  have H := H1
                  clear H1
                  by_cases c53 : a4 = a5
                  · rw [if_pos c53] at H
                    have c53b0 : (a4 == a5) = true := beq_iff_eq.mpr c53
                    have c53b1 : (a4 != a5) = false := bne_eq_false_iff_eq.mpr c53
                    clear c53
                    replace H := Option.bind_eq_some_iff.mp H
                    obtain ⟨t252, A540, H⟩ := H
                    replace H : ((turncockref15_Window.f a7 a5).bind fun t253 => (if ((t244.toList == t247.toList) == (t252 == t253)) = true then ((turncocklaw25_awake.f kj39).bind fun t254 => (some t254)) else (some false))) = some r := H
                    have A54 := Aside0.mk A540
                    clear A540
                    replace H := Option.bind_eq_some_iff.mp H
                    obtain ⟨t253, A550, H⟩ := H
                    replace H : (if ((t244.toList == t247.toList) == (t252 == t253)) = true then ((turncocklaw25_awake.f kj39).bind fun t254 => (some t254)) else (some false)) = some r := H
                    have A55 := Aside0.mk A550
                    clear A550
                    by_cases c56 : ((t244.toList == t247.toList) == (t252 == t253)) = true
                    · rw [if_pos c56] at H
                      have c56b0 : ((t244.toList == t247.toList) == (t252 == t253)) = true := c56
                      (try (have c56b1 : decide ((t244.toList == t247.toList) = (t252 == t253)) = true := by simpa using c56))
                      (try (have c56b2 : ((t244.toList == t247.toList) == (t252 == t253)) = true := by simpa using c56))
                      clear c56
                      replace H := Option.bind_eq_some_iff.mp H
                      obtain ⟨t254, A570, H⟩ := H
                      replace H : (some t254) = some r := H
                      have A57 := Aside0.mk A570
                      clear A570
                      first
                        | exact absurd ((Option.some.inj H).trans hr_) (by decide)
                        | (obtain rfl := Option.some.inj H
                           clear hr_
                           have hnb58 := NB239_240.out
                           have hnc58 := NB240_239.out
                           have hcz59_0 : wc.cell? ⟨gb239, 0, none⟩ = some (.slice A2_0 l2_0.length c2_0) := (blk_cell BK239.out 0).trans rfl
                           have hfz59_0 := blk_frozen BK239.out 0
                           have hcz60_0 : wc.cell? ⟨gb240, 0, none⟩ = some (.slice A3_0 l3_0.length c3_0) := (blk_cell BK240.out 0).trans rfl
                           have hfz60_0 := blk_frozen BK240.out 0
                           go_wp2_with (first | (go_at_call 20; (with_reducible refine (turncockref1_SameDesc.calls kj39 _ _ l2_0 _ _ l3_0 true _ ?side1 ?side2 ?side3 ?side4 A51.out).mono ?_); (case side1 => repeat (first | exact (Kd.C_below HR2_0.out HB.out) | (with_reducible refine Kd.C_alloc ?_ _) | (with_reducible refine Kd.C_drewN ?_ _) | (with_reducible refine Kd.C_drew ?_))); (case side2 => exact HC2_0.out); (case side3 => repeat (first | exact (Kd.C_below HR3_0.out HB.out) | (with_reducible refine Kd.C_alloc ?_ _) | (with_reducible refine Kd.C_drewN ?_ _) | (with_reducible refine Kd.C_drew ?_))); (case side4 => exact HC3_0.out); rintro e w61 ⟨rfl, hb⟩; have n0_ := Aside0.mk (blk_below (g := gb239) (o := .cells #[.slice A2_0 l2_0.length c2_0] 24 (0, 0)) (by (with_reducible repeat (first | refine blk_drewN ?_ _ | refine blk_drew ?_ | refine blk_alloc ?_ _)); exact BK239.out) hb); have n1_ := Aside0.mk (blk_below (g := gb240) (o := .cells #[.slice A3_0 l3_0.length c3_0] 24 (0, 0)) (by (with_reducible repeat (first | refine blk_drewN ?_ _ | refine blk_drew ?_ | refine blk_alloc ?_ _)); exact BK240.out) hb); have n2_ := Aside0.mk (below_step (by repeat (first | (with_reducible first | exact HB.out | apply below_alloc | apply pw_below_drewN | apply below_drew1 | refine below_set ?_ GE239.out | refine below_set ?_ GE240.out) | exact HB.out)) hb); clear BK239; clear BK240; clear HB; have BK239 := n0_; have BK240 := n1_; have HB := n2_; clear n0_ n1_ n2_; (try clear hb); (try clear hb2); (try clear hk); (try clear hi)) | (go_at_call 32; (with_reducible refine (turncockref15_Window.calls a6 a4 t252 _ A54.out).mono ?_); rintro e w' ⟨rfl, ⟨nd, rfl⟩⟩) | (go_at_call 32; (with_reducible refine (turncockref15_Window.calls a7 a5 t253 _ A55.out).mono ?_); rintro e w' ⟨rfl, ⟨nd, rfl⟩⟩) | (go_at_call 28; (with_reducible refine (turncocklaw25_awake.calls kj39  t254 _ A57.out).mono ?_); rintro e w62 ⟨rfl, hb⟩; have n0_ := Aside0.mk (blk_below (g := gb239) (o := .cells #[.slice A2_0 l2_0.length c2_0] 24 (0, 0)) (by (with_reducible repeat (first | refine blk_drewN ?_ _ | refine blk_drew ?_ | refine blk_alloc ?_ _)); exact BK239.out) hb); have n1_ := Aside0.mk (blk_below (g := gb240) (o := .cells #[.slice A3_0 l3_0.length c3_0] 24 (0, 0)) (by (with_reducible repeat (first | refine blk_drewN ?_ _ | refine blk_drew ?_ | refine blk_alloc ?_ _)); exact BK240.out) hb); have n2_ := Aside0.mk (below_step (by repeat (first | (with_reducible first | exact HB.out | apply below_alloc | apply pw_below_drewN | apply below_drew1 | refine below_set ?_ GE239.out | refine below_set ?_ GE240.out) | exact HB.out)) hb); clear BK239; clear BK240; clear HB; have BK239 := n0_; have BK240 := n1_; have HB := n2_; clear n0_ n1_ n2_; (try clear hb); (try clear hb2); (try clear hk); (try clear hi)))
                           go_ret
                           exact ⟨by first | rfl | (simp [errW_none, errW_some] <;> rfl) | (simp [*, errW_none, errW_some] <;> rfl), by repeat (first | (with_reducible first | exact HB.out | apply below_alloc | apply pw_below_drewN | apply below_drew1 | refine below_set ?_ GE239.out | refine below_set ?_ GE240.out) | exact HB.out)⟩)
                    · rw [if_neg c56] at H
                      have c56b0 : ((t244.toList == t247.toList) == (t252 == t253)) = false := by simpa using c56
                      (try (have c56b1 : decide ((t244.toList == t247.toList) = (t252 == t253)) = false := by simpa using c56))
                      (try (have c56b2 : ((t244.toList == t247.toList) == (t252 == t253)) = false := by simpa using c56))
                      (try (have c56b3 : ¬ ((t244.toList == t247.toList) = (t252 == t253)) := by simpa using c56))
                      clear c56
                      first
                        | exact absurd ((Option.some.inj H).trans hr_) (by decide)
                        | (obtain rfl := Option.some.inj H
                           clear hr_
                           have hnb63 := NB239_240.out
                           have hnc63 := NB240_239.out
                           have hcz64_0 : wc.cell? ⟨gb239, 0, none⟩ = some (.slice A2_0 l2_0.length c2_0) := (blk_cell BK239.out 0).trans rfl
                           have hfz64_0 := blk_frozen BK239.out 0
                           have hcz65_0 : wc.cell? ⟨gb240, 0, none⟩ = some (.slice A3_0 l3_0.length c3_0) := (blk_cell BK240.out 0).trans rfl
                           have hfz65_0 := blk_frozen BK240.out 0
                           go_wp2_with (first | (go_at_call 20; (with_reducible refine (turncockref1_SameDesc.calls kj39 _ _ l2_0 _ _ l3_0 true _ ?side1 ?side2 ?side3 ?side4 A51.out).mono ?_); (case side1 => repeat (first | exact (Kd.C_below HR2_0.out HB.out) | (with_reducible refine Kd.C_alloc ?_ _) | (with_reducible refine Kd.C_drewN ?_ _) | (with_reducible refine Kd.C_drew ?_))); (case side2 => exact HC2_0.out); (case side3 => repeat (first | exact (Kd.C_below HR3_0.out HB.out) | (with_reducible refine Kd.C_alloc ?_ _) | (with_reducible refine Kd.C_drewN ?_ _) | (with_reducible refine Kd.C_drew ?_))); (case side4 => exact HC3_0.out); rintro e w66 ⟨rfl, hb⟩; have n0_ := Aside0.mk (blk_below (g := gb239) (o := .cells #[.slice A2_0 l2_0.length c2_0] 24 (0, 0)) (by (with_reducible repeat (first | refine blk_drewN ?_ _ | refine blk_drew ?_ | refine blk_alloc ?_ _)); exact BK239.out) hb); have n1_ := Aside0.mk (blk_below (g := gb240) (o := .cells #[.slice A3_0 l3_0.length c3_0] 24 (0, 0)) (by (with_reducible repeat (first | refine blk_drewN ?_ _ | refine blk_drew ?_ | refine blk_alloc ?_ _)); exact BK240.out) hb); have n2_ := Aside0.mk (below_step (by repeat (first | (with_reducible first | exact HB.out | apply below_alloc | apply pw_below_drewN | apply below_drew1 | refine below_set ?_ GE239.out | refine below_set ?_ GE240.out) | exact HB.out)) hb); clear BK239; clear BK240; clear HB; have BK239 := n0_; have BK240 := n1_; have HB := n2_; clear n0_ n1_ n2_; (try clear hb); (try clear hb2); (try clear hk); (try clear hi)) | (go_at_call 32; (with_reducible refine (turncockref15_Window.calls a6 a4 t252 _ A54.out).mono ?_); rintro e w' ⟨rfl, ⟨nd, rfl⟩⟩) | (go_at_call 32; (with_reducible refine (turncockref15_Window.calls a7 a5 t253 _ A55.out).mono ?_); rintro e w' ⟨rfl, ⟨nd, rfl⟩⟩))
                           go_ret
                           exact ⟨by first | rfl | (simp [errW_none, errW_some] <;> rfl) | (simp [*, errW_none, errW_some] <;> rfl), by repeat (first | (with_reducible first | exact HB.out | apply below_alloc | apply pw_below_drewN | apply below_drew1 | refine below_set ?_ GE239.out | refine below_set ?_ GE240.out) | exact HB.out)⟩)
                  · rw [if_neg c53] at H
                    have c53b0 : (a4 == a5) = false := beq_eq_false_iff_ne.mpr c53
                    have c53b1 : (a4 != a5) = true := bne_iff_ne.mpr c53
                    by_cases c67 : ((t244.toList == t247.toList) == false) = true
                    · rw [if_pos c67] at H
                      have c67b0 : ((t244.toList == t247.toList) == false) = true := c67
                      (try (have c67b1 : decide ((t244.toList == t247.toList) = false) = true := by simpa using c67))
                      (try (have c67b2 : ((t244.toList == t247.toList) == false) = true := by simpa using c67))
                      clear c67
                      replace H := Option.bind_eq_some_iff.mp H
                      obtain ⟨t255, A680, H⟩ := H
                      replace H : (some t255) = some r := H
                      have A68 := Aside0.mk A680
                      clear A680
                      first
                        | exact absurd ((Option.some.inj H).trans hr_) (by decide)
                        | (obtain rfl := Option.some.inj H
                           clear hr_
                           have hnb69 := NB239_240.out
                           have hnc69 := NB240_239.out
                           have hcz70_0 : wc.cell? ⟨gb239, 0, none⟩ = some (.slice A2_0 l2_0.length c2_0) := (blk_cell BK239.out 0).trans rfl
                           have hfz70_0 := blk_frozen BK239.out 0
                           have hcz71_0 : wc.cell? ⟨gb240, 0, none⟩ = some (.slice A3_0 l3_0.length c3_0) := (blk_cell BK240.out 0).trans rfl
                           have hfz71_0 := blk_frozen BK240.out 0
                           go_wp2_with (first | (go_at_call 20; (with_reducible refine (turncockref1_SameDesc.calls kj39 _ _ l2_0 _ _ l3_0 true _ ?side1 ?side2 ?side3 ?side4 A51.out).mono ?_); (case side1 => repeat (first | exact (Kd.C_below HR2_0.out HB.out) | (with_reducible refine Kd.C_alloc ?_ _) | (with_reducible refine Kd.C_drewN ?_ _) | (with_reducible refine Kd.C_drew ?_))); (case side2 => exact HC2_0.out); (case side3 => repeat (first | exact (Kd.C_below HR3_0.out HB.out) | (with_reducible refine Kd.C_alloc ?_ _) | (with_reducible refine Kd.C_drewN ?_ _) | (with_reducible refine Kd.C_drew ?_))); (case side4 => exact HC3_0.out); rintro e w72 ⟨rfl, hb⟩; have n0_ := Aside0.mk (blk_below (g := gb239) (o := .cells #[.slice A2_0 l2_0.length c2_0] 24 (0, 0)) (by (with_reducible repeat (first | refine blk_drewN ?_ _ | refine blk_drew ?_ | refine blk_alloc ?_ _)); exact BK239.out) hb); have n1_ := Aside0.mk (blk_below (g := gb240) (o := .cells #[.slice A3_0 l3_0.length c3_0] 24 (0, 0)) (by (with_reducible repeat (first | refine blk_drewN ?_ _ | refine blk_drew ?_ | refine blk_alloc ?_ _)); exact BK240.out) hb); have n2_ := Aside0.mk (below_step (by repeat (first | (with_reducible first | exact HB.out | apply below_alloc | apply pw_below_drewN | apply below_drew1 | refine below_set ?_ GE239.out | refine below_set ?_ GE240.out) | exact HB.out)) hb); clear BK239; clear BK240; clear HB; have BK239 := n0_; have BK240 := n1_; have HB := n2_; clear n0_ n1_ n2_; (try clear hb); (try clear hb2); (try clear hk); (try clear hi)) | (go_at_call 28; (with_reducible refine (turncocklaw25_awake.calls kj39  t255 _ A68.out).mono ?_); rintro e w73 ⟨rfl, hb⟩; have n0_ := Aside0.mk (blk_below (g := gb239) (o := .cells #[.slice A2_0 l2_0.length c2_0] 24 (0, 0)) (by (with_reducible repeat (first | refine blk_drewN ?_ _ | refine blk_drew ?_ | refine blk_alloc ?_ _)); exact BK239.out) hb); have n1_ := Aside0.mk (blk_below (g := gb240) (o := .cells #[.slice A3_0 l3_0.length c3_0] 24 (0, 0)) (by (with_reducible repeat (first | refine blk_drewN ?_ _ | refine blk_drew ?_ | refine blk_alloc ?_ _)); exact BK240.out) hb); have n2_ := Aside0.mk (below_step (by repeat (first | (with_reducible first | exact HB.out | apply below_alloc | apply pw_below_drewN | apply below_drew1 | refine below_set ?_ GE239.out | refine below_set ?_ GE240.out) | exact HB.out)) hb); clear BK239; clear BK240; clear HB; have BK239 := n0_; have BK240 := n1_; have HB := n2_; clear n0_ n1_ n2_; (try clear hb); (try clear hb2); (try clear hk); (try clear hi)))
                           go_ret
                           exact ⟨by first | rfl | (simp [errW_none, errW_some] <;> rfl) | (simp [*, errW_none, errW_some] <;> rfl), by repeat (first | (with_reducible first | exact HB.out | apply below_alloc | apply pw_below_drewN | apply below_drew1 | refine below_set ?_ GE239.out | refine below_set ?_ GE240.out) | exact HB.out)⟩)
                    · rw [if_neg c67] at H
                      have c67b0 : ((t244.toList == t247.toList) == false) = false := by simpa using c67
                      (try (have c67b1 : decide ((t244.toList == t247.toList) = false) = false := by simpa using c67))
                      (try (have c67b2 : ((t244.toList == t247.toList) == false) = false := by simpa using c67))
                      (try (have c67b3 : ¬ ((t244.toList == t247.toList) = false) := by simpa using c67))
                      clear c67
                      first
                        | exact absurd ((Option.some.inj H).trans hr_) (by decide)
                        | (obtain rfl := Option.some.inj H
                           clear hr_
                           have hnb74 := NB239_240.out
                           have hnc74 := NB240_239.out
                           have hcz75_0 : wc.cell? ⟨gb239, 0, none⟩ = some (.slice A2_0 l2_0.length c2_0) := (blk_cell BK239.out 0).trans rfl
                           have hfz75_0 := blk_frozen BK239.out 0
                           have hcz76_0 : wc.cell? ⟨gb240, 0, none⟩ = some (.slice A3_0 l3_0.length c3_0) := (blk_cell BK240.out 0).trans rfl
                           have hfz76_0 := blk_frozen BK240.out 0
                           go_wp2_with (first | (go_at_call 20; (with_reducible refine (turncockref1_SameDesc.calls kj39 _ _ l2_0 _ _ l3_0 true _ ?side1 ?side2 ?side3 ?side4 A51.out).mono ?_); (case side1 => repeat (first | exact (Kd.C_below HR2_0.out HB.out) | (with_reducible refine Kd.C_alloc ?_ _) | (with_reducible refine Kd.C_drewN ?_ _) | (with_reducible refine Kd.C_drew ?_))); (case side2 => exact HC2_0.out); (case side3 => repeat (first | exact (Kd.C_below HR3_0.out HB.out) | (with_reducible refine Kd.C_alloc ?_ _) | (with_reducible refine Kd.C_drewN ?_ _) | (with_reducible refine Kd.C_drew ?_))); (case side4 => exact HC3_0.out); rintro e w77 ⟨rfl, hb⟩; have n0_ := Aside0.mk (blk_below (g := gb239) (o := .cells #[.slice A2_0 l2_0.length c2_0] 24 (0, 0)) (by (with_reducible repeat (first | refine blk_drewN ?_ _ | refine blk_drew ?_ | refine blk_alloc ?_ _)); exact BK239.out) hb); have n1_ := Aside0.mk (blk_below (g := gb240) (o := .cells #[.slice A3_0 l3_0.length c3_0] 24 (0, 0)) (by (with_reducible repeat (first | refine blk_drewN ?_ _ | refine blk_drew ?_ | refine blk_alloc ?_ _)); exact BK240.out) hb); have n2_ := Aside0.mk (below_step (by repeat (first | (with_reducible first | exact HB.out | apply below_alloc | apply pw_below_drewN | apply below_drew1 | refine below_set ?_ GE239.out | refine below_set ?_ GE240.out) | exact HB.out)) hb); clear BK239; clear BK240; clear HB; have BK239 := n0_; have BK240 := n1_; have HB := n2_; clear n0_ n1_ n2_; (try clear hb); (try clear hb2); (try clear hk); (try clear hi)))
                           go_ret
                           exact ⟨by first | rfl | (simp [errW_none, errW_some] <;> rfl) | (simp [*, errW_none, errW_some] <;> rfl), by repeat (first | (with_reducible first | exact HB.out | apply below_alloc | apply pw_below_drewN | apply below_drew1 | refine below_set ?_ GE239.out | refine below_set ?_ GE240.out) | exact HB.out)⟩)
                · replace c52 := Bool.eq_false_iff.mpr c52
                  subst c52
                  have H1 : (if ((t244.toList == t247.toList) == false) = true then ((turncocklaw25_awake.f kj39).bind fun t256 => (some t256)) else (some false)) = some r := by rw [if_neg (show ¬ (false = true) by decide)] at H; exact H
                  clear H
                  have H := H1
                  clear H1
                  by_cases c78 : ((t244.toList == t247.toList) == false) = true
                  · rw [if_pos c78] at H
                    have c78b0 : ((t244.toList == t247.toList) == false) = true := c78
                    (try (have c78b1 : decide ((t244.toList == t247.toList) = false) = true := by simpa using c78))
                    (try (have c78b2 : ((t244.toList == t247.toList) == false) = true := by simpa using c78))
                    clear c78
                    replace H := Option.bind_eq_some_iff.mp H
                    obtain ⟨t256, A790, H⟩ := H
                    replace H : (some t256) = some r := H
                    have A79 := Aside0.mk A790
                    clear A790
                    first
                      | exact absurd ((Option.some.inj H).trans hr_) (by decide)
                      | (obtain rfl := Option.some.inj H
                         clear hr_
                         have hnb80 := NB239_240.out
                         have hnc80 := NB240_239.out
                         have hcz81_0 : wc.cell? ⟨gb239, 0, none⟩ = some (.slice A2_0 l2_0.length c2_0) := (blk_cell BK239.out 0).trans rfl
                         have hfz81_0 := blk_frozen BK239.out 0
                         have hcz82_0 : wc.cell? ⟨gb240, 0, none⟩ = some (.slice A3_0 l3_0.length c3_0) := (blk_cell BK240.out 0).trans rfl
                         have hfz82_0 := blk_frozen BK240.out 0
                         go_wp2_with (first | (go_at_call 20; (with_reducible refine (turncockref1_SameDesc.calls kj39 _ _ l2_0 _ _ l3_0 false _ ?side1 ?side2 ?side3 ?side4 A51.out).mono ?_); (case side1 => repeat (first | exact (Kd.C_below HR2_0.out HB.out) | (with_reducible refine Kd.C_alloc ?_ _) | (with_reducible refine Kd.C_drewN ?_ _) | (with_reducible refine Kd.C_drew ?_))); (case side2 => exact HC2_0.out); (case side3 => repeat (first | exact (Kd.C_below HR3_0.out HB.out) | (with_reducible refine Kd.C_alloc ?_ _) | (with_reducible refine Kd.C_drewN ?_ _) | (with_reducible refine Kd.C_drew ?_))); (case side4 => exact HC3_0.out); rintro e w83 ⟨rfl, hb⟩; have n0_ := Aside0.mk (blk_below (g := gb239) (o := .cells #[.slice A2_0 l2_0.length c2_0] 24 (0, 0)) (by (with_reducible repeat (first | refine blk_drewN ?_ _ | refine blk_drew ?_ | refine blk_alloc ?_ _)); exact BK239.out) hb); have n1_ := Aside0.mk (blk_below (g := gb240) (o := .cells #[.slice A3_0 l3_0.length c3_0] 24 (0, 0)) (by (with_reducible repeat (first | refine blk_drewN ?_ _ | refine blk_drew ?_ | refine blk_alloc ?_ _)); exact BK240.out) hb); have n2_ := Aside0.mk (below_step (by repeat (first | (with_reducible first | exact HB.out | apply below_alloc | apply pw_below_drewN | apply below_drew1 | refine below_set ?_ GE239.out | refine below_set ?_ GE240.out) | exact HB.out)) hb); clear BK239; clear BK240; clear HB; have BK239 := n0_; have BK240 := n1_; have HB := n2_; clear n0_ n1_ n2_; (try clear hb); (try clear hb2); (try clear hk); (try clear hi)) | (go_at_call 28; (with_reducible refine (turncocklaw25_awake.calls kj39  t256 _ A79.out).mono ?_); rintro e w84 ⟨rfl, hb⟩; have n0_ := Aside0.mk (blk_below (g := gb239) (o := .cells #[.slice A2_0 l2_0.length c2_0] 24 (0, 0)) (by (with_reducible repeat (first | refine blk_drewN ?_ _ | refine blk_drew ?_ | refine blk_alloc ?_ _)); exact BK239.out) hb); have n1_ := Aside0.mk (blk_below (g := gb240) (o := .cells #[.slice A3_0 l3_0.length c3_0] 24 (0, 0)) (by (with_reducible repeat (first | refine blk_drewN ?_ _ | refine blk_drew ?_ | refine blk_alloc ?_ _)); exact BK240.out) hb); have n2_ := Aside0.mk (below_step (by repeat (first | (with_reducible first | exact HB.out | apply below_alloc | apply pw_below_drewN | apply below_drew1 | refine below_set ?_ GE239.out | refine below_set ?_ GE240.out) | exact HB.out)) hb); clear BK239; clear BK240; clear HB; have BK239 := n0_; have BK240 := n1_; have HB := n2_; clear n0_ n1_ n2_; (try clear hb); (try clear hb2); (try clear hk); (try clear hi)))
                         go_ret
                         exact ⟨by first | rfl | (simp [errW_none, errW_some] <;> rfl) | (simp [*, errW_none, errW_some] <;> rfl), by repeat (first | (with_reducible first | exact HB.out | apply below_alloc | apply pw_below_drewN | apply below_drew1 | refine below_set ?_ GE239.out | refine below_set ?_ GE240.out) | exact HB.out)⟩)
                  · rw [if_neg c78] at H
                    have c78b0 : ((t244.toList == t247.toList) == false) = false := by simpa using c78
                    (try (have c78b1 : decide ((t244.toList == t247.toList) = false) = false := by simpa using c78))
                    (try (have c78b2 : ((t244.toList == t247.toList) == false) = false := by simpa using c78))
                    (try (have c78b3 : ¬ ((t244.toList == t247.toList) = false) := by simpa using c78))
                    clear c78
                    first
                      | exact absurd ((Option.some.inj H).trans hr_) (by decide)
                      | (obtain rfl := Option.some.inj H
                         clear hr_
                         have hnb85 := NB239_240.out
                         have hnc85 := NB240_239.out
                         have hcz86_0 : wc.cell? ⟨gb239, 0, none⟩ = some (.slice A2_0 l2_0.length c2_0) := (blk_cell BK239.out 0).trans rfl
                         have hfz86_0 := blk_frozen BK239.out 0
                         have hcz87_0 : wc.cell? ⟨gb240, 0, none⟩ = some (.slice A3_0 l3_0.length c3_0) := (blk_cell BK240.out 0).trans rfl
                         have hfz87_0 := blk_frozen BK240.out 0
                         go_wp2_with (first | (go_at_call 20; (with_reducible refine (turncockref1_SameDesc.calls kj39 _ _ l2_0 _ _ l3_0 false _ ?side1 ?side2 ?side3 ?side4 A51.out).mono ?_); (case side1 => repeat (first | exact (Kd.C_below HR2_0.out HB.out) | (with_reducible refine Kd.C_alloc ?_ _) | (with_reducible refine Kd.C_drewN ?_ _) | (with_reducible refine Kd.C_drew ?_))); (case side2 => exact HC2_0.out); (case side3 => repeat (first | exact (Kd.C_below HR3_0.out HB.out) | (with_reducible refine Kd.C_alloc ?_ _) | (with_reducible refine Kd.C_drewN ?_ _) | (with_reducible refine Kd.C_drew ?_))); (case side4 => exact HC3_0.out); rintro e w88 ⟨rfl, hb⟩; have n0_ := Aside0.mk (blk_below (g := gb239) (o := .cells #[.slice A2_0 l2_0.length c2_0] 24 (0, 0)) (by (with_reducible repeat (first | refine blk_drewN ?_ _ | refine blk_drew ?_ | refine blk_alloc ?_ _)); exact BK239.out) hb); have n1_ := Aside0.mk (blk_below (g := gb240) (o := .cells #[.slice A3_0 l3_0.length c3_0] 24 (0, 0)) (by (with_reducible repeat (first | refine blk_drewN ?_ _ | refine blk_drew ?_ | refine blk_alloc ?_ _)); exact BK240.out) hb); have n2_ := Aside0.mk (below_step (by repeat (first | (with_reducible first | exact HB.out | apply below_alloc | apply pw_below_drewN | apply below_drew1 | refine below_set ?_ GE239.out | refine below_set ?_ GE240.out) | exact HB.out)) hb); clear BK239; clear BK240; clear HB; have BK239 := n0_; have BK240 := n1_; have HB := n2_; clear n0_ n1_ n2_; (try clear hb); (try clear hb2); (try clear hk); (try clear hi)))
                         go_ret
                         exact ⟨by first | rfl | (simp [errW_none, errW_some] <;> rfl) | (simp [*, errW_none, errW_some] <;> rfl), by repeat (first | (with_reducible first | exact HB.out | apply below_alloc | apply pw_below_drewN | apply below_drew1 | refine below_set ?_ GE239.out | refine below_set ?_ GE240.out) | exact HB.out)⟩)
              · rw [if_neg c50] at H
                have c50b0 : (a0.toList == a1.toList) = false := beq_eq_false_iff_ne.mpr c50
                have c50b1 : (a0.toList != a1.toList) = true := bne_iff_ne.mpr c50
                by_cases c89 : ((t244.toList == t247.toList) == false) = true
                · rw [if_pos c89] at H
                  have c89b0 : ((t244.toList == t247.toList) == false) = true := c89
                  (try (have c89b1 : decide ((t244.toList == t247.toList) = false) = true := by simpa using c89))
                  (try (have c89b2 : ((t244.toList == t247.toList) == false) = true := by simpa using c89))
                  clear c89
                  replace H := Option.bind_eq_some_iff.mp H
                  obtain ⟨t257, A900, H⟩ := H
                  replace H : (some t257) = some r := H
                  have A90 := Aside0.mk A900
                  clear A900
                  first
                    | exact absurd ((Option.some.inj H).trans hr_) (by decide)
                    | (obtain rfl := Option.some.inj H
                       clear hr_
                       go_wp2_with (first | (go_at_call 28; (with_reducible refine (turncocklaw25_awake.calls kj39  t257 _ A90.out).mono ?_); rintro e w91 ⟨rfl, hb⟩; have n0_ := Aside0.mk (blk_below (g := gb239) (o := .cells #[.slice A2_0 l2_0.length c2_0] 24 (0, 0)) (by (with_reducible repeat (first | refine blk_drewN ?_ _ | refine blk_drew ?_ | refine blk_alloc ?_ _)); exact BK239.out) hb); have n1_ := Aside0.mk (blk_below (g := gb240) (o := .cells #[.slice A3_0 l3_0.length c3_0] 24 (0, 0)) (by (with_reducible repeat (first | refine blk_drewN ?_ _ | refine blk_drew ?_ | refine blk_alloc ?_ _)); exact BK240.out) hb); have n2_ := Aside0.mk (below_step (by repeat (first | (with_reducible first | exact HB.out | apply below_alloc | apply pw_below_drewN | apply below_drew1 | refine below_set ?_ GE239.out | refine below_set ?_ GE240.out) | exact HB.out)) hb); clear BK239; clear BK240; clear HB; have BK239 := n0_; have BK240 := n1_; have HB := n2_; clear n0_ n1_ n2_; (try clear hb); (try clear hb2); (try clear hk); (try clear hi)))
                       go_ret
                       exact ⟨by first | rfl | (simp [errW_none, errW_some] <;> rfl) | (simp [*, errW_none, errW_some] <;> rfl), by repeat (first | (with_reducible first | exact HB.out | apply below_alloc | apply pw_below_drewN | apply below_drew1 | refine below_set ?_ GE239.out | refine below_set ?_ GE240.out) | exact HB.out)⟩)
                · rw [if_neg c89] at H
                  have c89b0 : ((t244.toList == t247.toList) == false) = false := by simpa using c89
                  (try (have c89b1 : decide ((t244.toList == t247.toList) = false) = false := by simpa using c89))
                  (try (have c89b2 : ((t244.toList == t247.toList) == false) = false := by simpa using c89))
                  (try (have c89b3 : ¬ ((t244.toList == t247.toList) = false) := by simpa using c89))
                  clear c89
                  first
                    | exact absurd ((Option.some.inj H).trans hr_) (by decide)
                    | (obtain rfl := Option.some.inj H
                       clear hr_
                       go_wp2
                       go_ret
                       exact ⟨by first | rfl | (simp [errW_none, errW_some] <;> rfl) | (simp [*, errW_none, errW_some] <;> rfl), by repeat (first | (with_reducible first | exact HB.out | apply below_alloc | apply pw_below_drewN | apply below_drew1 | refine below_set ?_ GE239.out | refine below_set ?_ GE240.out) | exact HB.out)⟩)

end Go.Proofs.YtpemmaffbcbcjaaDoor.PKeyApart
