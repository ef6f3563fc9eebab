-- WRITTEN BY THIS SESSION'S mprint.py upon the print: some functions are proved by hand
import Derived.Test.YtofebccpghkmgaaPRuleSamex0
import Derived.Test.YtofebccpghkmgaaPRuleSamex1
import Derived.Test.YtofebccpghkmgaaPRuleSamex2
import Derived.Test.YtofebccpghkmgaaPRuleSamex4
namespace Go.Proofs.Ytofebccpghkmgaa.PRuleSame
open Go.RowKit Go.Proofs.YtofebccpghkmgaaW.PrintWords Go.Proofs.YtofebccpghkmgaaW.PrintLast Go.Proofs.YtofebccpghkmgaaW.PrintMore
attribute [local go_sem] max2_int min2_int max_two min_two max_three min_three max_four min_four   -- for this text's walks alone
set_option linter.unusedVariables false
set_option linter.unusedSimpArgs false

/-! ### rule_Check: function 14 -/
def rule_Check.j0 : Nat → Bool → ByteArray → Int → Int → Nat → Bool → Bool → Option (Int)
  | 0, _, _, _, _, _, _, _ => none
  | k + 1, x3, x186000, x186001, x186002, x186003, x186004, x186005 => if x186005 = true then (if x186001 = 0 then (if x186002 = 0 then ((ratio_Same.f x186003 0).bind fun t188 => (if t188 = true then (if x186000.toList = ([] : List UInt8) then (some 0) else ((desc_Name.f k x186000).bind fun t189 => (if t189 = true then (some 0) else (some 1)))) else (some 1))) else (some 1)) else (some 1)) else (if x3 = true then (if x186000.toList = ([] : List UInt8) then (some 0) else ((desc_Name.f k x186000).bind fun t190 => (if t190 = true then (some 0) else (some 1)))) else (some 1))
def rule_Check.f (k : Nat) (a0_0 : ByteArray) (a0_1 : Int) (a0_2 : Int) (a0_3 : Nat) (a0_4 : Bool) (a0_5 : Bool) : Option (Int) := (unit_Secs.f a0_1).bind fun t186 => (if t186 > 0 then (if a0_2 ≥ 0 then (if a0_2 ≤ 4294967295 then ((rule_near.f k a0_3).bind fun t187 => (rule_Check.j0 k t187 a0_0 a0_1 a0_2 a0_3 a0_4 a0_5)) else (rule_Check.j0 k false a0_0 a0_1 a0_2 a0_3 a0_4 a0_5)) else (rule_Check.j0 k false a0_0 a0_1 a0_2 a0_3 a0_4 a0_5)) else (rule_Check.j0 k false a0_0 a0_1 a0_2 a0_3 a0_4 a0_5))
theorem rule_Check.mono_l : ∀ k, (∀ y0 y1 y2 y3 y4 y5 y6, LeO (rule_Check.j0 k y0 y1 y2 y3 y4 y5 y6) (rule_Check.j0 (k + 1) y0 y1 y2 y3 y4 y5 y6))
  | 0 => fun _ _ _ _ _ _ _ r h => by simp [rule_Check.j0] at h
  | k + 1 => by
    have ih0 := rule_Check.mono_l k
    · intro y0 y1 y2 y3 y4 y5 y6
      unfold rule_Check.j0
      repeat' first
      | (with_reducible exact ih0 _ _ _ _ _ _ _)
      | (with_reducible exact desc_Name.mono _ _)
      | (with_reducible exact rule_near.mono _ _)
      | (with_reducible exact LeO.refl _)
      | (with_reducible exact LeO.none _)
      | (with_reducible refine LeO.ite ?_ ?_)
      | (with_reducible refine LeO.bind ?_ (fun _ => ?_))
      | exact ih0 _ _ _ _ _ _ _
      | exact desc_Name.mono _ _
      | exact rule_near.mono _ _
      | exact LeO.none _
      | refine LeO.ite ?_ ?_
      | refine LeO.bind ?_ (fun _ => ?_)
theorem rule_Check.mono : ∀ a0 a1 a2 a3 a4 a5 k, LeO (rule_Check.f k a0 a1 a2 a3 a4 a5) (rule_Check.f (k + 1) a0 a1 a2 a3 a4 a5) := by
  intro a0 a1 a2 a3 a4 a5 k
  have ih0 := rule_Check.mono_l k
  unfold rule_Check.f
  repeat' first
      | (with_reducible exact ih0 _ _ _ _ _ _ _)
      | (with_reducible exact desc_Name.mono _ _)
      | (with_reducible exact rule_near.mono _ _)
      | (with_reducible exact LeO.refl _)
      | (with_reducible exact LeO.none _)
      | (with_reducible refine LeO.ite ?_ ?_)
      | (with_reducible refine LeO.bind ?_ (fun _ => ?_))
      | exact ih0 _ _ _ _ _ _ _
      | exact desc_Name.mono _ _
      | exact rule_near.mono _ _
      | exact LeO.none _
      | refine LeO.ite ?_ ?_
      | refine LeO.bind ?_ (fun _ => ?_)
set_option maxHeartbeats 8000000 in
set_option maxRecDepth 100000 in
theorem rule_Check.calls (k : Nat) (a0_0 : ByteArray) (a0_1 : Int) (a0_2 : Int) (a0_3 : Nat) (a0_4 : Bool) (a0_5 : Bool) (r : Int) (w : World) (h : rule_Check.f k a0_0 a0_1 a0_2 a0_3 a0_4 a0_5 = some r) :
    Calls Try.prog 14 #[.agg #[.string a0_0, .int .i64 a0_1, .int .i64 a0_2, .float .f64 a0_3, .bool a0_4, .bool a0_5]] w fun e w' => e = .returned (.int .i64 r) ∧ Below w.heap.size w w' := by
  have hu24 := Try.underlying24
  have HB := Aside0.mk (Below.refl w.heap.size w)
  have H : ((unit_Secs.f a0_1).bind fun t186 => (if t186 > 0 then (if a0_2 ≥ 0 then (if a0_2 ≤ 4294967295 then ((rule_near.f k a0_3).bind fun t187 => (rule_Check.j0 k t187 a0_0 a0_1 a0_2 a0_3 a0_4 a0_5)) else (rule_Check.j0 k false a0_0 a0_1 a0_2 a0_3 a0_4 a0_5)) else (rule_Check.j0 k false a0_0 a0_1 a0_2 a0_3 a0_4 a0_5)) else (rule_Check.j0 k false a0_0 a0_1 a0_2 a0_3 a0_4 a0_5))) = some r := h
  clear h
  have HC2 := Aside0.mk H
  clear H
  go_enter Try.func14, Try.ntmps14
  go_upto_region 1 with (first | ((with_reducible refine gate_dst (N := 1) rfl ?_); refine box_event ?hg (N := 1) ?hd (cs := #[.string a0_0, .int .i64 a0_1, .int .i64 a0_2, .float .f64 a0_3, .bool a0_4, .bool a0_5]) (t := 24) ?hr ?_; (case hd => rfl); (case hg => rfl); (case hr => first | (go_simp; done) | (go_simp; rfl)); intro gb185 hg w3 hbox hb; have n0_ := Aside0.mk (below_step (by repeat (first | (with_reducible first | exact HB.out | apply below_alloc | apply pw_below_drewN | apply below_drew1) | exact HB.out)) hb); have n1_ := Aside0.mk (hbox); have n2_ := Aside0.mk ((by rw [hg]; exact (below_size (by repeat (first | (with_reducible first | exact HB.out | apply below_alloc | apply pw_below_drewN | apply below_drew1) | exact HB.out))) : w.heap.size ≤ gb185)); have n3_ := Aside0.mk ((by rw [hg]; exact (below_size (by repeat (first | (with_reducible first | exact HB.out | apply below_alloc | apply pw_below_drewN | apply below_drew1) | exact HB.out))) : w.heap.size ≤ gb185)); clear HB; have HB := n0_; have BK185 := n1_; have GW185 := n2_; have GE185 := n3_; clear n0_ n1_ n2_ n3_; clear hb hbox hg))
  (try simp only [Act.put, List.setIfInBounds_toArray, List.set_cons_zero, List.set_cons_succ])
  go_cut [3] (fun v3 wc => ∃ (kq : Nat) (x3_1 : Bool), v3 = .bool x3_1 ∧ Aside0 (rule_Check.j0 kq x3_1 a0_0 a0_1 a0_2 a0_3 a0_4 a0_5 = some r) ∧ Aside0 (kq ≤ k) ∧ Aside0 (wc.heap[gb185]? = some (.cells #[.string a0_0, .int .i64 a0_1, .int .i64 a0_2, .float .f64 a0_3, .bool a0_4, .bool a0_5] 24 (0, 0))) ∧ Aside0 (Below w.heap.size w wc))
  case first =>
    have H := HC2.out
    clear HC2
    replace H := Option.bind_eq_some_iff.mp H
    obtain ⟨t186, A40, H⟩ := H
    replace H : (if t186 > 0 then (if a0_2 ≥ 0 then (if a0_2 ≤ 4294967295 then ((rule_near.f k a0_3).bind fun t187 => (rule_Check.j0 k t187 a0_0 a0_1 a0_2 a0_3 a0_4 a0_5)) else (rule_Check.j0 k false a0_0 a0_1 a0_2 a0_3 a0_4 a0_5)) else (rule_Check.j0 k false a0_0 a0_1 a0_2 a0_3 a0_4 a0_5)) else (rule_Check.j0 k false a0_0 a0_1 a0_2 a0_3 a0_4 a0_5)) = some r := H
    have A4 := Aside0.mk A40
    clear A40
    by_cases c5 : t186 > 0
    · rw [if_pos c5] at H
      have c5b0 : decide (0 < t186) = true := decide_eq_true c5
      clear c5
      (first | rw [c5b0] | (simp only [i64_w, i32_w]; rw [c5b0]) | skip)
      by_cases c6 : a0_2 ≥ 0
      · rw [if_pos c6] at H
        have c6b0 : decide (0 ≤ a0_2) = true := decide_eq_true c6
        clear c6
        by_cases c7 : a0_2 ≤ 4294967295
        · rw [if_pos c7] at H
          have c7b0 : decide (a0_2 ≤ 4294967295) = true := decide_eq_true c7
          clear c7
          replace H := Option.bind_eq_some_iff.mp H
          obtain ⟨t187, A80, H⟩ := H
          replace H : (rule_Check.j0 k t187 a0_0 a0_1 a0_2 a0_3 a0_4 a0_5) = some r := H
          have A8 := Aside0.mk A80
          clear A80
          have H' := Aside0.mk H
          clear H
          have hcz9_0 : w3.cell? ⟨gb185, 0, none⟩ = some (.string a0_0) := (blk_cell BK185.out 0).trans rfl
          have hcz9_1 : w3.cell? ⟨gb185, 1, none⟩ = some (.int .i64 a0_1) := (blk_cell BK185.out 1).trans rfl
          have hcz9_2 : w3.cell? ⟨gb185, 2, none⟩ = some (.int .i64 a0_2) := (blk_cell BK185.out 2).trans rfl
          have hcz9_3 : w3.cell? ⟨gb185, 3, none⟩ = some (.float .f64 a0_3) := (blk_cell BK185.out 3).trans rfl
          have hcz9_4 : w3.cell? ⟨gb185, 4, none⟩ = some (.bool a0_4) := (blk_cell BK185.out 4).trans rfl
          have hcz9_5 : w3.cell? ⟨gb185, 5, none⟩ = some (.bool a0_5) := (blk_cell BK185.out 5).trans rfl
          have hfz9_0 := blk_frozen BK185.out 0
          have hfz9_1 := blk_frozen BK185.out 1
          have hfz9_2 := blk_frozen BK185.out 2
          have hfz9_3 := blk_frozen BK185.out 3
          have hfz9_4 := blk_frozen BK185.out 4
          have hfz9_5 := blk_frozen BK185.out 5
          go_wp2_with (first | ((with_reducible refine gate_callee (f := 31) rfl ?_); refine goesL_ (some 6) rfl rfl Try.func31 (by kernel_rfl) rfl #[.int .i64 a0_1] rfl (by (try simp only [List.map_toArray, List.map_cons, List.map_nil]); first | done | rfl | (simp only [List.length_drop, List.length_take]; rfl)) ?_; (with_reducible refine (unit_Secs.calls a0_1 t186 _ A4.out).mono ?_); rintro e w10 ⟨rfl, hb⟩; refine ⟨_, rfl, ?_⟩; have n0_ := Aside0.mk (blk_below (g := gb185) (o := .cells #[.string a0_0, .int .i64 a0_1, .int .i64 a0_2, .float .f64 a0_3, .bool a0_4, .bool a0_5] 24 (0, 0)) (by (with_reducible repeat (first | refine blk_drewN ?_ _ | refine blk_drew ?_ | refine blk_alloc ?_ _)); exact BK185.out) hb); have n1_ := Aside0.mk (below_step (by repeat (first | (with_reducible first | exact HB.out | apply below_alloc | apply pw_below_drewN | apply below_drew1 | refine below_set ?_ GE185.out) | exact HB.out)) hb); clear BK185; clear HB; have BK185 := n0_; have HB := n1_; clear n0_ n1_; (try clear hb); (try clear hb2); (try clear hk); (try clear hi); have hcz11_0 : w10.cell? ⟨gb185, 0, none⟩ = some (.string a0_0) := (blk_cell BK185.out 0).trans rfl; have hcz11_1 : w10.cell? ⟨gb185, 1, none⟩ = some (.int .i64 a0_1) := (blk_cell BK185.out 1).trans rfl; have hcz11_2 : w10.cell? ⟨gb185, 2, none⟩ = some (.int .i64 a0_2) := (blk_cell BK185.out 2).trans rfl; have hcz11_3 : w10.cell? ⟨gb185, 3, none⟩ = some (.float .f64 a0_3) := (blk_cell BK185.out 3).trans rfl; have hcz11_4 : w10.cell? ⟨gb185, 4, none⟩ = some (.bool a0_4) := (blk_cell BK185.out 4).trans rfl; have hcz11_5 : w10.cell? ⟨gb185, 5, none⟩ = some (.bool a0_5) := (blk_cell BK185.out 5).trans rfl; have hfz11_0 := blk_frozen BK185.out 0; have hfz11_1 := blk_frozen BK185.out 1; have hfz11_2 := blk_frozen BK185.out 2; have hfz11_3 := blk_frozen BK185.out 3; have hfz11_4 := blk_frozen BK185.out 4; have hfz11_5 := blk_frozen BK185.out 5) | (go_at_call 32; (with_reducible refine (rule_near.calls k a0_3 t187 _ A8.out).mono ?_); rintro e w12 ⟨rfl, hb⟩; have n0_ := Aside0.mk (blk_below (g := gb185) (o := .cells #[.string a0_0, .int .i64 a0_1, .int .i64 a0_2, .float .f64 a0_3, .bool a0_4, .bool a0_5] 24 (0, 0)) (by (with_reducible repeat (first | refine blk_drewN ?_ _ | refine blk_drew ?_ | refine blk_alloc ?_ _)); exact BK185.out) hb); have n1_ := Aside0.mk (below_step (by repeat (first | (with_reducible first | exact HB.out | apply below_alloc | apply pw_below_drewN | apply below_drew1 | refine below_set ?_ GE185.out) | exact HB.out)) hb); clear BK185; clear HB; have BK185 := n0_; have HB := n1_; clear n0_ n1_; (try clear hb); (try clear hb2); (try clear hk); (try clear hi)))
          go_meet
          case rel => exact ⟨_, (t187), (by first | rfl | (simp; done) | (simp [*]; done)), H', ⟨by first | omega | exact Nat.le_refl _⟩, ⟨by (with_reducible repeat (first | refine blk_drewN ?_ _ | refine blk_drew ?_ | refine blk_alloc ?_ _)); exact BK185.out⟩, ⟨by repeat (first | (with_reducible first | exact HB.out | apply below_alloc | apply pw_below_drewN | apply below_drew1 | refine below_set ?_ GE185.out) | exact HB.out)⟩⟩
        · rw [if_neg c7] at H
          have c7b0 : decide (a0_2 ≤ 4294967295) = false := decide_eq_false c7
          clear c7
          have H' := Aside0.mk H
          clear H
          have hcz13_0 : w3.cell? ⟨gb185, 0, none⟩ = some (.string a0_0) := (blk_cell BK185.out 0).trans rfl
          have hcz13_1 : w3.cell? ⟨gb185, 1, none⟩ = some (.int .i64 a0_1) := (blk_cell BK185.out 1).trans rfl
          have hcz13_2 : w3.cell? ⟨gb185, 2, none⟩ = some (.int .i64 a0_2) := (blk_cell BK185.out 2).trans rfl
          have hcz13_3 : w3.cell? ⟨gb185, 3, none⟩ = some (.float .f64 a0_3) := (blk_cell BK185.out 3).trans rfl
          have hcz13_4 : w3.cell? ⟨gb185, 4, none⟩ = some (.bool a0_4) := (blk_cell BK185.out 4).trans rfl
          have hcz13_5 : w3.cell? ⟨gb185, 5, none⟩ = some (.bool a0_5) := (blk_cell BK185.out 5).trans rfl
          have hfz13_0 := blk_frozen BK185.out 0
          have hfz13_1 := blk_frozen BK185.out 1
          have hfz13_2 := blk_frozen BK185.out 2
          have hfz13_3 := blk_frozen BK185.out 3
          have hfz13_4 := blk_frozen BK185.out 4
          have hfz13_5 := blk_frozen BK185.out 5
          go_wp2_with (first | ((with_reducible refine gate_callee (f := 31) rfl ?_); refine goesL_ (some 6) rfl rfl Try.func31 (by kernel_rfl) rfl #[.int .i64 a0_1] rfl (by (try simp only [List.map_toArray, List.map_cons, List.map_nil]); first | done | rfl | (simp only [List.length_drop, List.length_take]; rfl)) ?_; (with_reducible refine (unit_Secs.calls a0_1 t186 _ A4.out).mono ?_); rintro e w14 ⟨rfl, hb⟩; refine ⟨_, rfl, ?_⟩; have n0_ := Aside0.mk (blk_below (g := gb185) (o := .cells #[.string a0_0, .int .i64 a0_1, .int .i64 a0_2, .float .f64 a0_3, .bool a0_4, .bool a0_5] 24 (0, 0)) (by (with_reducible repeat (first | refine blk_drewN ?_ _ | refine blk_drew ?_ | refine blk_alloc ?_ _)); exact BK185.out) hb); have n1_ := Aside0.mk (below_step (by repeat (first | (with_reducible first | exact HB.out | apply below_alloc | apply pw_below_drewN | apply below_drew1 | refine below_set ?_ GE185.out) | exact HB.out)) hb); clear BK185; clear HB; have BK185 := n0_; have HB := n1_; clear n0_ n1_; (try clear hb); (try clear hb2); (try clear hk); (try clear hi); have hcz15_0 : w14.cell? ⟨gb185, 0, none⟩ = some (.string a0_0) := (blk_cell BK185.out 0).trans rfl; have hcz15_1 : w14.cell? ⟨gb185, 1, none⟩ = some (.int .i64 a0_1) := (blk_cell BK185.out 1).trans rfl; have hcz15_2 : w14.cell? ⟨gb185, 2, none⟩ = some (.int .i64 a0_2) := (blk_cell BK185.out 2).trans rfl; have hcz15_3 : w14.cell? ⟨gb185, 3, none⟩ = some (.float .f64 a0_3) := (blk_cell BK185.out 3).trans rfl; have hcz15_4 : w14.cell? ⟨gb185, 4, none⟩ = some (.bool a0_4) := (blk_cell BK185.out 4).trans rfl; have hcz15_5 : w14.cell? ⟨gb185, 5, none⟩ = some (.bool a0_5) := (blk_cell BK185.out 5).trans rfl; have hfz15_0 := blk_frozen BK185.out 0; have hfz15_1 := blk_frozen BK185.out 1; have hfz15_2 := blk_frozen BK185.out 2; have hfz15_3 := blk_frozen BK185.out 3; have hfz15_4 := blk_frozen BK185.out 4; have hfz15_5 := blk_frozen BK185.out 5))
          go_meet
          case rel => exact ⟨_, (false), (by first | rfl | (simp; done) | (simp [*]; done)), H', ⟨by first | omega | exact Nat.le_refl _⟩, ⟨by (with_reducible repeat (first | refine blk_drewN ?_ _ | refine blk_drew ?_ | refine blk_alloc ?_ _)); exact BK185.out⟩, ⟨by repeat (first | (with_reducible first | exact HB.out | apply below_alloc | apply pw_below_drewN | apply below_drew1 | refine below_set ?_ GE185.out) | exact HB.out)⟩⟩
      · rw [if_neg c6] at H
        have c6b0 : decide (0 ≤ a0_2) = false := decide_eq_false c6
        clear c6
        have H' := Aside0.mk H
        clear H
        have hcz16_0 : w3.cell? ⟨gb185, 0, none⟩ = some (.string a0_0) := (blk_cell BK185.out 0).trans rfl
        have hcz16_1 : w3.cell? ⟨gb185, 1, none⟩ = some (.int .i64 a0_1) := (blk_cell BK185.out 1).trans rfl
        have hcz16_2 : w3.cell? ⟨gb185, 2, none⟩ = some (.int .i64 a0_2) := (blk_cell BK185.out 2).trans rfl
        have hcz16_3 : w3.cell? ⟨gb185, 3, none⟩ = some (.float .f64 a0_3) := (blk_cell BK185.out 3).trans rfl
        have hcz16_4 : w3.cell? ⟨gb185, 4, none⟩ = some (.bool a0_4) := (blk_cell BK185.out 4).trans rfl
        have hcz16_5 : w3.cell? ⟨gb185, 5, none⟩ = some (.bool a0_5) := (blk_cell BK185.out 5).trans rfl
        have hfz16_0 := blk_frozen BK185.out 0
        have hfz16_1 := blk_frozen BK185.out 1
        have hfz16_2 := blk_frozen BK185.out 2
        have hfz16_3 := blk_frozen BK185.out 3
        have hfz16_4 := blk_frozen BK185.out 4
        have hfz16_5 := blk_frozen BK185.out 5
        go_wp2_with (first | ((with_reducible refine gate_callee (f := 31) rfl ?_); refine goesL_ (some 6) rfl rfl Try.func31 (by kernel_rfl) rfl #[.int .i64 a0_1] rfl (by (try simp only [List.map_toArray, List.map_cons, List.map_nil]); first | done | rfl | (simp only [List.length_drop, List.length_take]; rfl)) ?_; (with_reducible refine (unit_Secs.calls a0_1 t186 _ A4.out).mono ?_); rintro e w17 ⟨rfl, hb⟩; refine ⟨_, rfl, ?_⟩; have n0_ := Aside0.mk (blk_below (g := gb185) (o := .cells #[.string a0_0, .int .i64 a0_1, .int .i64 a0_2, .float .f64 a0_3, .bool a0_4, .bool a0_5] 24 (0, 0)) (by (with_reducible repeat (first | refine blk_drewN ?_ _ | refine blk_drew ?_ | refine blk_alloc ?_ _)); exact BK185.out) hb); have n1_ := Aside0.mk (below_step (by repeat (first | (with_reducible first | exact HB.out | apply below_alloc | apply pw_below_drewN | apply below_drew1 | refine below_set ?_ GE185.out) | exact HB.out)) hb); clear BK185; clear HB; have BK185 := n0_; have HB := n1_; clear n0_ n1_; (try clear hb); (try clear hb2); (try clear hk); (try clear hi); have hcz18_0 : w17.cell? ⟨gb185, 0, none⟩ = some (.string a0_0) := (blk_cell BK185.out 0).trans rfl; have hcz18_1 : w17.cell? ⟨gb185, 1, none⟩ = some (.int .i64 a0_1) := (blk_cell BK185.out 1).trans rfl; have hcz18_2 : w17.cell? ⟨gb185, 2, none⟩ = some (.int .i64 a0_2) := (blk_cell BK185.out 2).trans rfl; have hcz18_3 : w17.cell? ⟨gb185, 3, none⟩ = some (.float .f64 a0_3) := (blk_cell BK185.out 3).trans rfl; have hcz18_4 : w17.cell? ⟨gb185, 4, none⟩ = some (.bool a0_4) := (blk_cell BK185.out 4).trans rfl; have hcz18_5 : w17.cell? ⟨gb185, 5, none⟩ = some (.bool a0_5) := (blk_cell BK185.out 5).trans rfl; have hfz18_0 := blk_frozen BK185.out 0; have hfz18_1 := blk_frozen BK185.out 1; have hfz18_2 := blk_frozen BK185.out 2; have hfz18_3 := blk_frozen BK185.out 3; have hfz18_4 := blk_frozen BK185.out 4; have hfz18_5 := blk_frozen BK185.out 5))
        go_meet
        case rel => exact ⟨_, (false), (by first | rfl | (simp; done) | (simp [*]; done)), H', ⟨by first | omega | exact Nat.le_refl _⟩, ⟨by (with_reducible repeat (first | refine blk_drewN ?_ _ | refine blk_drew ?_ | refine blk_alloc ?_ _)); exact BK185.out⟩, ⟨by repeat (first | (with_reducible first | exact HB.out | apply below_alloc | apply pw_below_drewN | apply below_drew1 | refine below_set ?_ GE185.out) | exact HB.out)⟩⟩
    · rw [if_neg c5] at H
      have c5b0 : decide (0 < t186) = false := decide_eq_false c5
      clear c5
      (first | rw [c5b0] | (simp only [i64_w, i32_w]; rw [c5b0]) | skip)
      have H' := Aside0.mk H
      clear H
      have hcz19_0 : w3.cell? ⟨gb185, 0, none⟩ = some (.string a0_0) := (blk_cell BK185.out 0).trans rfl
      have hcz19_1 : w3.cell? ⟨gb185, 1, none⟩ = some (.int .i64 a0_1) := (blk_cell BK185.out 1).trans rfl
      have hcz19_2 : w3.cell? ⟨gb185, 2, none⟩ = some (.int .i64 a0_2) := (blk_cell BK185.out 2).trans rfl
      have hcz19_3 : w3.cell? ⟨gb185, 3, none⟩ = some (.float .f64 a0_3) := (blk_cell BK185.out 3).trans rfl
      have hcz19_4 : w3.cell? ⟨gb185, 4, none⟩ = some (.bool a0_4) := (blk_cell BK185.out 4).trans rfl
      have hcz19_5 : w3.cell? ⟨gb185, 5, none⟩ = some (.bool a0_5) := (blk_cell BK185.out 5).trans rfl
      have hfz19_0 := blk_frozen BK185.out 0
      have hfz19_1 := blk_frozen BK185.out 1
      have hfz19_2 := blk_frozen BK185.out 2
      have hfz19_3 := blk_frozen BK185.out 3
      have hfz19_4 := blk_frozen BK185.out 4
      have hfz19_5 := blk_frozen BK185.out 5
      go_wp2_with (first | ((with_reducible refine gate_callee (f := 31) rfl ?_); refine goesL_ (some 6) rfl rfl Try.func31 (by kernel_rfl) rfl #[.int .i64 a0_1] rfl (by (try simp only [List.map_toArray, List.map_cons, List.map_nil]); first | done | rfl | (simp only [List.length_drop, List.length_take]; rfl)) ?_; (with_reducible refine (unit_Secs.calls a0_1 t186 _ A4.out).mono ?_); rintro e w20 ⟨rfl, hb⟩; refine ⟨_, rfl, ?_⟩; have n0_ := Aside0.mk (blk_below (g := gb185) (o := .cells #[.string a0_0, .int .i64 a0_1, .int .i64 a0_2, .float .f64 a0_3, .bool a0_4, .bool a0_5] 24 (0, 0)) (by (with_reducible repeat (first | refine blk_drewN ?_ _ | refine blk_drew ?_ | refine blk_alloc ?_ _)); exact BK185.out) hb); have n1_ := Aside0.mk (below_step (by repeat (first | (with_reducible first | exact HB.out | apply below_alloc | apply pw_below_drewN | apply below_drew1 | refine below_set ?_ GE185.out) | exact HB.out)) hb); clear BK185; clear HB; have BK185 := n0_; have HB := n1_; clear n0_ n1_; (try clear hb); (try clear hb2); (try clear hk); (try clear hi)))
      go_meet
      case rel => exact ⟨_, (false), (by first | rfl | (simp; done) | (simp [*]; done)), H', ⟨by first | omega | exact Nat.le_refl _⟩, ⟨by (with_reducible repeat (first | refine blk_drewN ?_ _ | refine blk_drew ?_ | refine blk_alloc ?_ _)); exact BK185.out⟩, ⟨by repeat (first | (with_reducible first | exact HB.out | apply below_alloc | apply pw_below_drewN | apply below_drew1 | refine below_set ?_ GE185.out) | exact HB.out)⟩⟩
  case rest =>
    clear HC2
    try clear c1
    try clear p2
    try clear c3
    try clear c5
    try clear c5b0
    try clear c6
    try clear c6b0
    try clear c7
    try clear c7b0
    try clear c14
    try clear hcz11_0
    try clear hcz11_1
    try clear hcz11_2
    try clear hcz11_3
    try clear hcz11_4
    try clear hcz11_5
    try clear hcz13_0
    try clear hcz13_1
    try clear hcz13_2
    try clear hcz13_3
    try clear hcz13_4
    try clear hcz13_5
    try clear hcz15_0
    try clear hcz15_1
    try clear hcz15_2
    try clear hcz15_3
    try clear hcz15_4
    try clear hcz15_5
    try clear hcz16_0
    try clear hcz16_1
    try clear hcz16_2
    try clear hcz16_3
    try clear hcz16_4
    try clear hcz16_5
    try clear hcz18_0
    try clear hcz18_1
    try clear hcz18_2
    try clear hcz18_3
    try clear hcz18_4
    try clear hcz18_5
    try clear hcz19_0
    try clear hcz19_1
    try clear hcz19_2
    try clear hcz19_3
    try clear hcz19_4
    try clear hcz19_5
    try clear hcz9_0
    try clear hcz9_1
    try clear hcz9_2
    try clear hcz9_3
    try clear hcz9_4
    try clear hcz9_5
    try clear hfz11_0
    try clear hfz11_1
    try clear hfz11_2
    try clear hfz11_3
    try clear hfz11_4
    try clear hfz11_5
    try clear hfz13_0
    try clear hfz13_1
    try clear hfz13_2
    try clear hfz13_3
    try clear hfz13_4
    try clear hfz13_5
    try clear hfz15_0
    try clear hfz15_1
    try clear hfz15_2
    try clear hfz15_3
    try clear hfz15_4
    try clear hfz15_5
    try clear hfz16_0
    try clear hfz16_1
    try clear hfz16_2
    try clear hfz16_3
    try clear hfz16_4
    try clear hfz16_5
    try clear hfz18_0
    try clear hfz18_1
    try clear hfz18_2
    try clear hfz18_3
    try clear hfz18_4
    try clear hfz18_5
    try clear hfz19_0
    try clear hfz19_1
    try clear hfz19_2
    try clear hfz19_3
    try clear hfz19_4
    try clear hfz19_5
    try clear hfz9_0
    try clear hfz9_1
    try clear hfz9_2
    try clear hfz9_3
    try clear hfz9_4
    try clear hfz9_5
    obtain ⟨kq, x3_1, rfl, HA, HJ1, BK185, HB⟩ := hcut
    cases kq with
    | zero => exact absurd HA.out (by simp [rule_Check.j0])
    | succ kj1 =>
      have H := HA.out
      clear HA
      simp only [rule_Check.j0] at H
      by_cases c21 : a0_5 = true
      · subst c21
        have H1 : (if a0_1 = 0 then (if a0_2 = 0 then ((ratio_Same.f a0_3 0).bind fun t188 => (if t188 = true then (if a0_0.toList = ([] : List UInt8) then (some 0) else ((desc_Name.f kj1 a0_0).bind fun t189 => (if t189 = true then (some 0) else (some 1)))) else (some 1))) else (some 1)) else (some 1)) = some r := by rw [if_pos rfl] at H; exact H
        clear H
        have H := H1
        clear H1
        by_cases c22 : a0_1 = 0
        · rw [if_pos c22] at H
          have c22b0 : (a0_1 == 0) = true := beq_iff_eq.mpr c22
          have c22b1 : (a0_1 != 0) = false := bne_eq_false_iff_eq.mpr c22
          clear c22
          by_cases c23 : a0_2 = 0
          · rw [if_pos c23] at H
            have c23b0 : (a0_2 == 0) = true := beq_iff_eq.mpr c23
            have c23b1 : (a0_2 != 0) = false := bne_eq_false_iff_eq.mpr c23
            clear c23
            replace H := Option.bind_eq_some_iff.mp H
            obtain ⟨t188, A240, H⟩ := H
            replace H : (if t188 = true then (if a0_0.toList = ([] : List UInt8) then (some 0) else ((desc_Name.f kj1 a0_0).bind fun t189 => (if t189 = true then (some 0) else (some 1)))) else (some 1)) = some r := H
            have A24 := Aside0.mk A240
            clear A240
            by_cases c25 : t188 = true
            · subst c25
              have H1 : (if a0_0.toList = ([] : List UInt8) then (some 0) else ((desc_Name.f kj1 a0_0).bind fun t189 => (if t189 = true then (some 0) else (some 1)))) = some r := by rw [if_pos rfl] at H; exact H
              clear H
              have H := H1
              clear H1
              by_cases c26 : a0_0.toList = ([] : List UInt8)
              · rw [if_pos c26] at H
                have c26b0 : (a0_0.toList == ([] : List UInt8)) = true := beq_iff_eq.mpr c26
                have c26b1 : (a0_0.toList != ([] : List UInt8)) = false := bne_eq_false_iff_eq.mpr c26
                clear c26
                obtain rfl := Option.some.inj H
                have hcz27_0 : wc.cell? ⟨gb185, 0, none⟩ = some (.string a0_0) := (blk_cell BK185.out 0).trans rfl
                have hcz27_1 : wc.cell? ⟨gb185, 1, none⟩ = some (.int .i64 a0_1) := (blk_cell BK185.out 1).trans rfl
                have hcz27_2 : wc.cell? ⟨gb185, 2, none⟩ = some (.int .i64 a0_2) := (blk_cell BK185.out 2).trans rfl
                have hcz27_3 : wc.cell? ⟨gb185, 3, none⟩ = some (.float .f64 a0_3) := (blk_cell BK185.out 3).trans rfl
                have hcz27_4 : wc.cell? ⟨gb185, 4, none⟩ = some (.bool a0_4) := (blk_cell BK185.out 4).trans rfl
                have hcz27_5 : wc.cell? ⟨gb185, 5, none⟩ = some (.bool true) := (blk_cell BK185.out 5).trans rfl
                have hfz27_0 := blk_frozen BK185.out 0
                have hfz27_1 := blk_frozen BK185.out 1
                have hfz27_2 := blk_frozen BK185.out 2
                have hfz27_3 := blk_frozen BK185.out 3
                have hfz27_4 := blk_frozen BK185.out 4
                have hfz27_5 := blk_frozen BK185.out 5
                go_wp2_with (first | (go_at_call 29; (with_reducible refine (ratio_Same.calls a0_3 0 true _ A24.out).mono ?_); rintro e w' ⟨rfl, ⟨nd, rfl⟩⟩))
                go_ret
                exact ⟨by first | rfl | (simp [errW_none, errW_some] <;> rfl) | (simp [*, errW_none, errW_some] <;> rfl), by repeat (first | (with_reducible first | exact HB.out | apply below_alloc | apply pw_below_drewN | apply below_drew1 | refine below_set ?_ GE185.out) | exact HB.out)⟩
              · rw [if_neg c26] at H
                have c26b0 : (a0_0.toList == ([] : List UInt8)) = false := beq_eq_false_iff_ne.mpr c26
                have c26b1 : (a0_0.toList != ([] : List UInt8)) = true := bne_iff_ne.mpr c26
                replace H := Option.bind_eq_some_iff.mp H
                obtain ⟨t189, A280, H⟩ := H
                replace H : (if t189 = true then (some 0) else (some 1)) = some r := H
                have A28 := Aside0.mk A280
                clear A280
                by_cases c29 : t189 = true
                · subst c29
                  have H1 : (some 0) = some r := by rw [if_pos rfl] at H; exact H
                  clear H
                  have H := H1
                  clear H1
                  obtain rfl := Option.some.inj H
                  have hcz30_0 : wc.cell? ⟨gb185, 0, none⟩ = some (.string a0_0) := (blk_cell BK185.out 0).trans rfl
                  have hcz30_1 : wc.cell? ⟨gb185, 1, none⟩ = some (.int .i64 a0_1) := (blk_cell BK185.out 1).trans rfl
                  have hcz30_2 : wc.cell? ⟨gb185, 2, none⟩ = some (.int .i64 a0_2) := (blk_cell BK185.out 2).trans rfl
                  have hcz30_3 : wc.cell? ⟨gb185, 3, none⟩ = some (.float .f64 a0_3) := (blk_cell BK185.out 3).trans rfl
                  have hcz30_4 : wc.cell? ⟨gb185, 4, none⟩ = some (.bool a0_4) := (blk_cell BK185.out 4).trans rfl
                  have hcz30_5 : wc.cell? ⟨gb185, 5, none⟩ = some (.bool true) := (blk_cell BK185.out 5).trans rfl
                  have hfz30_0 := blk_frozen BK185.out 0
                  have hfz30_1 := blk_frozen BK185.out 1
                  have hfz30_2 := blk_frozen BK185.out 2
                  have hfz30_3 := blk_frozen BK185.out 3
                  have hfz30_4 := blk_frozen BK185.out 4
                  have hfz30_5 := blk_frozen BK185.out 5
                  go_wp2_with (first | (go_at_call 29; (with_reducible refine (ratio_Same.calls a0_3 0 true _ A24.out).mono ?_); rintro e w' ⟨rfl, ⟨nd, rfl⟩⟩) | (go_at_call 33; (with_reducible refine (desc_Name.calls kj1 a0_0 true _ A28.out).mono ?_); rintro e w' ⟨rfl, ⟨nd, rfl⟩⟩))
                  go_ret
                  exact ⟨by first | rfl | (simp [errW_none, errW_some] <;> rfl) | (simp [*, errW_none, errW_some] <;> rfl), by repeat (first | (with_reducible first | exact HB.out | apply below_alloc | apply pw_below_drewN | apply below_drew1 | refine below_set ?_ GE185.out) | exact HB.out)⟩
                · replace c29 := Bool.eq_false_iff.mpr c29
                  subst c29
                  have H1 : (some 1) = some r := by rw [if_neg (show ¬ (false = true) by decide)] at H; exact H
                  clear H
                  have H := H1
                  clear H1
                  obtain rfl := Option.some.inj H
                  have hcz31_0 : wc.cell? ⟨gb185, 0, none⟩ = some (.string a0_0) := (blk_cell BK185.out 0).trans rfl
                  have hcz31_1 : wc.cell? ⟨gb185, 1, none⟩ = some (.int .i64 a0_1) := (blk_cell BK185.out 1).trans rfl
                  have hcz31_2 : wc.cell? ⟨gb185, 2, none⟩ = some (.int .i64 a0_2) := (blk_cell BK185.out 2).trans rfl
                  have hcz31_3 : wc.cell? ⟨gb185, 3, none⟩ = some (.float .f64 a0_3) := (blk_cell BK185.out 3).trans rfl
                  have hcz31_4 : wc.cell? ⟨gb185, 4, none⟩ = some (.bool a0_4) := (blk_cell BK185.out 4).trans rfl
                  have hcz31_5 : wc.cell? ⟨gb185, 5, none⟩ = some (.bool true) := (blk_cell BK185.out 5).trans rfl
                  have hfz31_0 := blk_frozen BK185.out 0
                  have hfz31_1 := blk_frozen BK185.out 1
                  have hfz31_2 := blk_frozen BK185.out 2
                  have hfz31_3 := blk_frozen BK185.out 3
                  have hfz31_4 := blk_frozen BK185.out 4
                  have hfz31_5 := blk_frozen BK185.out 5
                  go_wp2_with (first | (go_at_call 29; (with_reducible refine (ratio_Same.calls a0_3 0 true _ A24.out).mono ?_); rintro e w' ⟨rfl, ⟨nd, rfl⟩⟩) | (go_at_call 33; (with_reducible refine (desc_Name.calls kj1 a0_0 false _ A28.out).mono ?_); rintro e w' ⟨rfl, ⟨nd, rfl⟩⟩))
                  go_ret
                  exact ⟨by first | rfl | (simp [errW_none, errW_some] <;> rfl) | (simp [*, errW_none, errW_some] <;> rfl), by repeat (first | (with_reducible first | exact HB.out | apply below_alloc | apply pw_below_drewN | apply below_drew1 | refine below_set ?_ GE185.out) | exact HB.out)⟩
            · replace c25 := Bool.eq_false_iff.mpr c25
              subst c25
              have H1 : (some 1) = some r := by rw [if_neg (show ¬ (false = true) by decide)] at H; exact H
              clear H
              have H := H1
              clear H1
              obtain rfl := Option.some.inj H
              have hcz32_0 : wc.cell? ⟨gb185, 0, none⟩ = some (.string a0_0) := (blk_cell BK185.out 0).trans rfl
              have hcz32_1 : wc.cell? ⟨gb185, 1, none⟩ = some (.int .i64 a0_1) := (blk_cell BK185.out 1).trans rfl
              have hcz32_2 : wc.cell? ⟨gb185, 2, none⟩ = some (.int .i64 a0_2) := (blk_cell BK185.out 2).trans rfl
              have hcz32_3 : wc.cell? ⟨gb185, 3, none⟩ = some (.float .f64 a0_3) := (blk_cell BK185.out 3).trans rfl
              have hcz32_4 : wc.cell? ⟨gb185, 4, none⟩ = some (.bool a0_4) := (blk_cell BK185.out 4).trans rfl
              have hcz32_5 : wc.cell? ⟨gb185, 5, none⟩ = some (.bool true) := (blk_cell BK185.out 5).trans rfl
              have hfz32_0 := blk_frozen BK185.out 0
              have hfz32_1 := blk_frozen BK185.out 1
              have hfz32_2 := blk_frozen BK185.out 2
              have hfz32_3 := blk_frozen BK185.out 3
              have hfz32_4 := blk_frozen BK185.out 4
              have hfz32_5 := blk_frozen BK185.out 5
              go_wp2_with (first | (go_at_call 29; (with_reducible refine (ratio_Same.calls a0_3 0 false _ A24.out).mono ?_); rintro e w' ⟨rfl, ⟨nd, rfl⟩⟩))
              go_ret
              exact ⟨by first | rfl | (simp [errW_none, errW_some] <;> rfl) | (simp [*, errW_none, errW_some] <;> rfl), by repeat (first | (with_reducible first | exact HB.out | apply below_alloc | apply pw_below_drewN | apply below_drew1 | refine below_set ?_ GE185.out) | exact HB.out)⟩
          · rw [if_neg c23] at H
            have c23b0 : (a0_2 == 0) = false := beq_eq_false_iff_ne.mpr c23
            have c23b1 : (a0_2 != 0) = true := bne_iff_ne.mpr c23
            obtain rfl := Option.some.inj H
            have hcz33_0 : wc.cell? ⟨gb185, 0, none⟩ = some (.string a0_0) := (blk_cell BK185.out 0).trans rfl
            have hcz33_1 : wc.cell? ⟨gb185, 1, none⟩ = some (.int .i64 a0_1) := (blk_cell BK185.out 1).trans rfl
            have hcz33_2 : wc.cell? ⟨gb185, 2, none⟩ = some (.int .i64 a0_2) := (blk_cell BK185.out 2).trans rfl
            have hcz33_3 : wc.cell? ⟨gb185, 3, none⟩ = some (.float .f64 a0_3) := (blk_cell BK185.out 3).trans rfl
            have hcz33_4 : wc.cell? ⟨gb185, 4, none⟩ = some (.bool a0_4) := (blk_cell BK185.out 4).trans rfl
            have hcz33_5 : wc.cell? ⟨gb185, 5, none⟩ = some (.bool true) := (blk_cell BK185.out 5).trans rfl
            have hfz33_0 := blk_frozen BK185.out 0
            have hfz33_1 := blk_frozen BK185.out 1
            have hfz33_2 := blk_frozen BK185.out 2
            have hfz33_3 := blk_frozen BK185.out 3
            have hfz33_4 := blk_frozen BK185.out 4
            have hfz33_5 := blk_frozen BK185.out 5
            go_wp2
            go_ret
            exact ⟨by first | rfl | (simp [errW_none, errW_some] <;> rfl) | (simp [*, errW_none, errW_some] <;> rfl), by repeat (first | (with_reducible first | exact HB.out | apply below_alloc | apply pw_below_drewN | apply below_drew1 | refine below_set ?_ GE185.out) | exact HB.out)⟩
        · rw [if_neg c22] at H
          have c22b0 : (a0_1 == 0) = false := beq_eq_false_iff_ne.mpr c22
          have c22b1 : (a0_1 != 0) = true := bne_iff_ne.mpr c22
          obtain rfl := Option.some.inj H
          have hcz34_0 : wc.cell? ⟨gb185, 0, none⟩ = some (.string a0_0) := (blk_cell BK185.out 0).trans rfl
          have hcz34_1 : wc.cell? ⟨gb185, 1, none⟩ = some (.int .i64 a0_1) := (blk_cell BK185.out 1).trans rfl
          have hcz34_2 : wc.cell? ⟨gb185, 2, none⟩ = some (.int .i64 a0_2) := (blk_cell BK185.out 2).trans rfl
          have hcz34_3 : wc.cell? ⟨gb185, 3, none⟩ = some (.float .f64 a0_3) := (blk_cell BK185.out 3).trans rfl
          have hcz34_4 : wc.cell? ⟨gb185, 4, none⟩ = some (.bool a0_4) := (blk_cell BK185.out 4).trans rfl
          have hcz34_5 : wc.cell? ⟨gb185, 5, none⟩ = some (.bool true) := (blk_cell BK185.out 5).trans rfl
          have hfz34_0 := blk_frozen BK185.out 0
          have hfz34_1 := blk_frozen BK185.out 1
          have hfz34_2 := blk_frozen BK185.out 2
          have hfz34_3 := blk_frozen BK185.out 3
          have hfz34_4 := blk_frozen BK185.out 4
          have hfz34_5 := blk_frozen BK185.out 5
          go_wp2
          go_ret
          exact ⟨by first | rfl | (simp [errW_none, errW_some] <;> rfl) | (simp [*, errW_none, errW_some] <;> rfl), by repeat (first | (with_reducible first | exact HB.out | apply below_alloc | apply pw_below_drewN | apply below_drew1 | refine below_set ?_ GE185.out) | exact HB.out)⟩
      · replace c21 := Bool.eq_false_iff.mpr c21
        subst c21
        have H1 : (if x3_1 = true then (if a0_0.toList = ([] : List UInt8) then (some 0) else ((desc_Name.f kj1 a0_0).bind fun t190 => (if t190 = true then (some 0) else (some 1)))) else (some 1)) = some r := by rw [if_neg (show ¬ (false = true) by decide)] at H; exact H
        clear H
        have H := H1
        clear H1
        by_cases c35 : x3_1 = true
        · subst c35
          have H1 : (if a0_0.toList = ([] : List UInt8) then (some 0) else ((desc_Name.f kj1 a0_0).bind fun t190 => (if t190 = true then (some 0) else (some 1)))) = some r := by rw [if_pos rfl] at H; exact H
          clear H
          have H := H1
          clear H1
          by_cases c36 : a0_0.toList = ([] : List UInt8)
          · rw [if_pos c36] at H
            have c36b0 : (a0_0.toList == ([] : List UInt8)) = true := beq_iff_eq.mpr c36
            have c36b1 : (a0_0.toList != ([] : List UInt8)) = false := bne_eq_false_iff_eq.mpr c36
            clear c36
            obtain rfl := Option.some.inj H
            have hcz37_0 : wc.cell? ⟨gb185, 0, none⟩ = some (.string a0_0) := (blk_cell BK185.out 0).trans rfl
            have hcz37_1 : wc.cell? ⟨gb185, 1, none⟩ = some (.int .i64 a0_1) := (blk_cell BK185.out 1).trans rfl
            have hcz37_2 : wc.cell? ⟨gb185, 2, none⟩ = some (.int .i64 a0_2) := (blk_cell BK185.out 2).trans rfl
            have hcz37_3 : wc.cell? ⟨gb185, 3, none⟩ = some (.float .f64 a0_3) := (blk_cell BK185.out 3).trans rfl
            have hcz37_4 : wc.cell? ⟨gb185, 4, none⟩ = some (.bool a0_4) := (blk_cell BK185.out 4).trans rfl
            have hcz37_5 : wc.cell? ⟨gb185, 5, none⟩ = some (.bool false) := (blk_cell BK185.out 5).trans rfl
            have hfz37_0 := blk_frozen BK185.out 0
            have hfz37_1 := blk_frozen BK185.out 1
            have hfz37_2 := blk_frozen BK185.out 2
            have hfz37_3 := blk_frozen BK185.out 3
            have hfz37_4 := blk_frozen BK185.out 4
            have hfz37_5 := blk_frozen BK185.out 5
            go_wp2
            go_ret
            exact ⟨by first | rfl | (simp [errW_none, errW_some] <;> rfl) | (simp [*, errW_none, errW_some] <;> rfl), by repeat (first | (with_reducible first | exact HB.out | apply below_alloc | apply pw_below_drewN | apply below_drew1 | refine below_set ?_ GE185.out) | exact HB.out)⟩
          · rw [if_neg c36] at H
            have c36b0 : (a0_0.toList == ([] : List UInt8)) = false := beq_eq_false_iff_ne.mpr c36
            have c36b1 : (a0_0.toList != ([] : List UInt8)) = true := bne_iff_ne.mpr c36
            replace H := Option.bind_eq_some_iff.mp H
            obtain ⟨t190, A380, H⟩ := H
            replace H : (if t190 = true then (some 0) else (some 1)) = some r := H
            have A38 := Aside0.mk A380
            clear A380
            by_cases c39 : t190 = true
            · subst c39
              have H1 : (some 0) = some r := by rw [if_pos rfl] at H; exact H
              clear H
              have H := H1
              clear H1
              obtain rfl := Option.some.inj H
              have hcz40_0 : wc.cell? ⟨gb185, 0, none⟩ = some (.string a0_0) := (blk_cell BK185.out 0).trans rfl
              have hcz40_1 : wc.cell? ⟨gb185, 1, none⟩ = some (.int .i64 a0_1) := (blk_cell BK185.out 1).trans rfl
              have hcz40_2 : wc.cell? ⟨gb185, 2, none⟩ = some (.int .i64 a0_2) := (blk_cell BK185.out 2).trans rfl
              have hcz40_3 : wc.cell? ⟨gb185, 3, none⟩ = some (.float .f64 a0_3) := (blk_cell BK185.out 3).trans rfl
              have hcz40_4 : wc.cell? ⟨gb185, 4, none⟩ = some (.bool a0_4) := (blk_cell BK185.out 4).trans rfl
              have hcz40_5 : wc.cell? ⟨gb185, 5, none⟩ = some (.bool false) := (blk_cell BK185.out 5).trans rfl
              have hfz40_0 := blk_frozen BK185.out 0
              have hfz40_1 := blk_frozen BK185.out 1
              have hfz40_2 := blk_frozen BK185.out 2
              have hfz40_3 := blk_frozen BK185.out 3
              have hfz40_4 := blk_frozen BK185.out 4
              have hfz40_5 := blk_frozen BK185.out 5
              go_wp2_with (first | (go_at_call 33; (with_reducible refine (desc_Name.calls kj1 a0_0 true _ A38.out).mono ?_); rintro e w' ⟨rfl, ⟨nd, rfl⟩⟩))
              go_ret
              exact ⟨by first | rfl | (simp [errW_none, errW_some] <;> rfl) | (simp [*, errW_none, errW_some] <;> rfl), by repeat (first | (with_reducible first | exact HB.out | apply below_alloc | apply pw_below_drewN | apply below_drew1 | refine below_set ?_ GE185.out) | exact HB.out)⟩
            · replace c39 := Bool.eq_false_iff.mpr c39
              subst c39
              have H1 : (some 1) = some r := by rw [if_neg (show ¬ (false = true) by decide)] at H; exact H
              clear H
              have H := H1
              clear H1
              obtain rfl := Option.some.inj H
              have hcz41_0 : wc.cell? ⟨gb185, 0, none⟩ = some (.string a0_0) := (blk_cell BK185.out 0).trans rfl
              have hcz41_1 : wc.cell? ⟨gb185, 1, none⟩ = some (.int .i64 a0_1) := (blk_cell BK185.out 1).trans rfl
              have hcz41_2 : wc.cell? ⟨gb185, 2, none⟩ = some (.int .i64 a0_2) := (blk_cell BK185.out 2).trans rfl
              have hcz41_3 : wc.cell? ⟨gb185, 3, none⟩ = some (.float .f64 a0_3) := (blk_cell BK185.out 3).trans rfl
              have hcz41_4 : wc.cell? ⟨gb185, 4, none⟩ = some (.bool a0_4) := (blk_cell BK185.out 4).trans rfl
              have hcz41_5 : wc.cell? ⟨gb185, 5, none⟩ = some (.bool false) := (blk_cell BK185.out 5).trans rfl
              have hfz41_0 := blk_frozen BK185.out 0
              have hfz41_1 := blk_frozen BK185.out 1
              have hfz41_2 := blk_frozen BK185.out 2
              have hfz41_3 := blk_frozen BK185.out 3
              have hfz41_4 := blk_frozen BK185.out 4
              have hfz41_5 := blk_frozen BK185.out 5
              go_wp2_with (first | (go_at_call 33; (with_reducible refine (desc_Name.calls kj1 a0_0 false _ A38.out).mono ?_); rintro e w' ⟨rfl, ⟨nd, rfl⟩⟩))
              go_ret
              exact ⟨by first | rfl | (simp [errW_none, errW_some] <;> rfl) | (simp [*, errW_none, errW_some] <;> rfl), by repeat (first | (with_reducible first | exact HB.out | apply below_alloc | apply pw_below_drewN | apply below_drew1 | refine below_set ?_ GE185.out) | exact HB.out)⟩
        · replace c35 := Bool.eq_false_iff.mpr c35
          subst c35
          have H1 : (some 1) = some r := by rw [if_neg (show ¬ (false = true) by decide)] at H; exact H
          clear H
          have H := H1
          clear H1
          obtain rfl := Option.some.inj H
          have hcz42_0 : wc.cell? ⟨gb185, 0, none⟩ = some (.string a0_0) := (blk_cell BK185.out 0).trans rfl
          have hcz42_1 : wc.cell? ⟨gb185, 1, none⟩ = some (.int .i64 a0_1) := (blk_cell BK185.out 1).trans rfl
          have hcz42_2 : wc.cell? ⟨gb185, 2, none⟩ = some (.int .i64 a0_2) := (blk_cell BK185.out 2).trans rfl
          have hcz42_3 : wc.cell? ⟨gb185, 3, none⟩ = some (.float .f64 a0_3) := (blk_cell BK185.out 3).trans rfl
          have hcz42_4 : wc.cell? ⟨gb185, 4, none⟩ = some (.bool a0_4) := (blk_cell BK185.out 4).trans rfl
          have hcz42_5 : wc.cell? ⟨gb185, 5, none⟩ = some (.bool false) := (blk_cell BK185.out 5).trans rfl
          have hfz42_0 := blk_frozen BK185.out 0
          have hfz42_1 := blk_frozen BK185.out 1
          have hfz42_2 := blk_frozen BK185.out 2
          have hfz42_3 := blk_frozen BK185.out 3
          have hfz42_4 := blk_frozen BK185.out 4
          have hfz42_5 := blk_frozen BK185.out 5
          go_wp2
          go_ret
          exact ⟨by first | rfl | (simp [errW_none, errW_some] <;> rfl) | (simp [*, errW_none, errW_some] <;> rfl), by repeat (first | (with_reducible first | exact HB.out | apply below_alloc | apply pw_below_drewN | apply below_drew1 | refine below_set ?_ GE185.out) | exact HB.out)⟩

/-! ### ratio_Near: function 38 -/
def ratio_Near.j0 : Nat → Int → Nat → Bool → Option (Int)
  | 0, _, _, _ => none
  | k + 1, x0, x1, x8 => if x8 = true then (some x0) else (if (fle x1 0) = true then (some 0) else (if (fmulOk (fofi x0) x1) = true then (if (f2iOk (fmul (fofi x0) x1)) = true then (some (f2i (fmul (fofi x0) x1))) else (none)) else (none)))
def ratio_Near.f (k : Nat) (a0 : Int) (a1 : Nat) : Option (Int) := (math_IsNaN.f a1).bind fun t191 => (if t191 = true then (ratio_Near.j0 k (mn (mx a0 0) 4294967295) a1 true) else (ratio_Near.j0 k (mn (mx a0 0) 4294967295) a1 (fge a1 4607182418800017408)))
theorem ratio_Near.mono_l : ∀ k, (∀ y0 y1 y2, LeO (ratio_Near.j0 k y0 y1 y2) (ratio_Near.j0 (k + 1) y0 y1 y2))
  | 0 => fun _ _ _ r h => by simp [ratio_Near.j0] at h
  | k + 1 => by
    have ih0 := ratio_Near.mono_l k
    · intro y0 y1 y2
      unfold ratio_Near.j0
      repeat' first
      | (with_reducible exact ih0 _ _ _)
      | (with_reducible exact LeO.refl _)
      | (with_reducible exact LeO.none _)
      | (with_reducible refine LeO.ite ?_ ?_)
      | (with_reducible refine LeO.bind ?_ (fun _ => ?_))
      | exact ih0 _ _ _
      | exact LeO.none _
      | refine LeO.ite ?_ ?_
      | refine LeO.bind ?_ (fun _ => ?_)
theorem ratio_Near.mono : ∀ a0 a1 k, LeO (ratio_Near.f k a0 a1) (ratio_Near.f (k + 1) a0 a1) := by
  intro a0 a1 k
  have ih0 := ratio_Near.mono_l k
  unfold ratio_Near.f
  repeat' first
      | (with_reducible exact ih0 _ _ _)
      | (with_reducible exact LeO.refl _)
      | (with_reducible exact LeO.none _)
      | (with_reducible refine LeO.ite ?_ ?_)
      | (with_reducible refine LeO.bind ?_ (fun _ => ?_))
      | exact ih0 _ _ _
      | exact LeO.none _
      | refine LeO.ite ?_ ?_
      | refine LeO.bind ?_ (fun _ => ?_)
set_option maxHeartbeats 8000000 in
set_option maxRecDepth 100000 in
theorem ratio_Near.calls (k : Nat) (a0 : Int) (a1 : Nat) (r : Int) (w : World) (h : ratio_Near.f k a0 a1 = some r) :
    Calls Try.prog 38 #[.int .i64 a0, .float .f64 a1] w fun e w' => e = .returned (.int .i64 r) ∧ Below w.heap.size w w' := by
  have HB := Aside0.mk (Below.refl w.heap.size w)
  have H : ((math_IsNaN.f a1).bind fun t191 => (if t191 = true then (ratio_Near.j0 k (mn (mx a0 0) 4294967295) a1 true) else (ratio_Near.j0 k (mn (mx a0 0) 4294967295) a1 (fge a1 4607182418800017408)))) = some r := h
  clear h
  obtain ⟨ji3, hji3⟩ : ∃ j_ : Int, (mx a0 0) = j_ := ⟨_, rfl⟩
  replace H : ((math_IsNaN.f a1).bind fun t191 => (if t191 = true then (ratio_Near.j0 k (mn (ji3) 4294967295) a1 true) else (ratio_Near.j0 k (mn (ji3) 4294967295) a1 (fge a1 4607182418800017408)))) = some r := by first | (rw [hji3] at H; exact H) | (simp only [hji3] at H ⊢; exact H)
  (try (have hji3l : 0 ≤ ji3 := by (rw [← hji3]; unfold mx; (repeat' split) <;> omega)))
  (try (have hji3m : 0 ≤ ji3 := by omega))
  have hji3_ : (if a0 < 0 then 0 else a0) = ji3 := hji3
  obtain ⟨ji4, hji4⟩ : ∃ j_ : Int, (mn (ji3) 4294967295) = j_ := ⟨_, rfl⟩
  replace H : ((math_IsNaN.f a1).bind fun t191 => (if t191 = true then (ratio_Near.j0 k ji4 a1 true) else (ratio_Near.j0 k ji4 a1 (fge a1 4607182418800017408)))) = some r := by first | (rw [hji4] at H; exact H) | (simp only [hji4] at H ⊢; exact H)
  have hji4_ : (if 4294967295 < (ji3) then 4294967295 else (ji3)) = ji4 := hji4
  have HC5 := Aside0.mk H
  clear H
  go_enter Try.func38, Try.ntmps38
  go_upto_region 2 with (fail)
  go_cut [8] (fun v8 wc => ∃ (kq : Nat) (x8_4 : Bool), v8 = .bool x8_4 ∧ Aside0 (ratio_Near.j0 kq ji4 a1 x8_4 = some r) ∧ Aside0 (kq ≤ k) ∧ Aside0 (Below w.heap.size w wc))
  case first =>
    have H := HC5.out
    clear HC5
    replace H := Option.bind_eq_some_iff.mp H
    obtain ⟨t191, A60, H⟩ := H
    replace H : (if t191 = true then (ratio_Near.j0 k ji4 a1 true) else (ratio_Near.j0 k ji4 a1 (fge a1 4607182418800017408))) = some r := H
    have A6 := Aside0.mk A60
    clear A60
    by_cases c7 : t191 = true
    · subst c7
      have H1 : (ratio_Near.j0 k ji4 a1 true) = some r := by rw [if_pos rfl] at H; exact H
      clear H
      have H := H1
      clear H1
      have H' := Aside0.mk H
      clear H
      go_wp2_with (first | ((with_reducible refine gate_callee (f := 53) rfl ?_); refine goesL_ (some 10) rfl rfl Try.func53 (by kernel_rfl) rfl #[.float .f64 a1] rfl (by (try simp only [List.map_toArray, List.map_cons, List.map_nil]); first | done | rfl | (simp only [List.length_drop, List.length_take]; rfl)) ?_; (with_reducible refine (math_IsNaN.calls a1 true _ A6.out).mono ?_); rintro e w' ⟨rfl, ⟨nd, rfl⟩⟩; refine ⟨_, rfl, ?_⟩))
      go_meet
      case rel => exact ⟨_, (true), (by first | rfl | (simp; done) | (simp [*]; done)), H', ⟨by first | omega | exact Nat.le_refl _⟩, ⟨by repeat (first | (with_reducible first | exact HB.out | apply below_alloc | apply pw_below_drewN | apply below_drew1) | exact HB.out)⟩⟩
    · replace c7 := Bool.eq_false_iff.mpr c7
      subst c7
      have H1 : (ratio_Near.j0 k ji4 a1 (fge a1 4607182418800017408)) = some r := by rw [if_neg (show ¬ (false = true) by decide)] at H; exact H
      clear H
      have H := H1
      clear H1
      have H' := Aside0.mk H
      clear H
      go_wp2_with (first | ((with_reducible refine gate_callee (f := 53) rfl ?_); refine goesL_ (some 10) rfl rfl Try.func53 (by kernel_rfl) rfl #[.float .f64 a1] rfl (by (try simp only [List.map_toArray, List.map_cons, List.map_nil]); first | done | rfl | (simp only [List.length_drop, List.length_take]; rfl)) ?_; (with_reducible refine (math_IsNaN.calls a1 false _ A6.out).mono ?_); rintro e w' ⟨rfl, ⟨nd, rfl⟩⟩; refine ⟨_, rfl, ?_⟩))
      go_meet
      case rel => exact ⟨_, ((fge a1 4607182418800017408)), (by first | rfl | (simp; done) | (simp [*]; done)), H', ⟨by first | omega | exact Nat.le_refl _⟩, ⟨by repeat (first | (with_reducible first | exact HB.out | apply below_alloc | apply pw_below_drewN | apply below_drew1) | exact HB.out)⟩⟩
  case rest =>
    clear HC5
    try clear p2
    try clear c3
    try clear c5
    try clear c7
    obtain ⟨kq, x8_4, rfl, HA, HJ4, HB⟩ := hcut
    cases kq with
    | zero => exact absurd HA.out (by simp [ratio_Near.j0])
    | succ kj4 =>
      have H := HA.out
      clear HA
      simp only [ratio_Near.j0] at H
      by_cases c8 : x8_4 = true
      · subst c8
        have H1 : (some ji4) = some r := by rw [if_pos rfl] at H; exact H
        clear H
        have H := H1
        clear H1
        obtain rfl := Option.some.inj H
        go_wp2
        go_ret
        exact ⟨by first | rfl | (simp [errW_none, errW_some] <;> rfl) | (simp only [← hji3, ← hji4]; first | rfl | (simp [errW_none, errW_some] <;> rfl)) | (simp [*, errW_none, errW_some] <;> rfl), by repeat (first | (with_reducible first | exact HB.out | apply below_alloc | apply pw_below_drewN | apply below_drew1) | exact HB.out)⟩
      · replace c8 := Bool.eq_false_iff.mpr c8
        subst c8
        have H1 : (if (fle a1 0) = true then (some 0) else (if (fmulOk (fofi ji4) a1) = true then (if (f2iOk (fmul (fofi ji4) a1)) = true then (some (f2i (fmul (fofi ji4) a1))) else (none)) else (none))) = some r := by rw [if_neg (show ¬ (false = true) by decide)] at H; exact H
        clear H
        have H := H1
        clear H1
        by_cases c9 : (fle a1 0) = true
        · rw [if_pos c9] at H
          have c9b0 : (fle a1 0) = true := c9
          clear c9
          obtain rfl := Option.some.inj H
          go_wp2
          go_ret
          exact ⟨by first | rfl | (simp [errW_none, errW_some] <;> rfl) | (simp only [← hji3, ← hji4]; first | rfl | (simp [errW_none, errW_some] <;> rfl)) | (simp [*, errW_none, errW_some] <;> rfl), by repeat (first | (with_reducible first | exact HB.out | apply below_alloc | apply pw_below_drewN | apply below_drew1) | exact HB.out)⟩
        · rw [if_neg c9] at H
          have c9b0 : (fle a1 0) = false := by simpa using c9
          clear c9
          by_cases c10 : (fmulOk (fofi ji4) a1) = true
          · rw [if_pos c10] at H
            have c10b0 := eq_true c10
            have c10b1 : decide ((fmulOk (fofi ji4) a1) = true) = true := decide_eq_true c10
            clear c10
            by_cases c11 : (f2iOk (fmul (fofi ji4) a1)) = true
            · rw [if_pos c11] at H
              have c11b0 := eq_true c11
              have c11b1 : decide ((f2iOk (fmul (fofi ji4) a1)) = true) = true := decide_eq_true c11
              clear c11
              obtain rfl := Option.some.inj H
              go_wp2
              go_ret
              exact ⟨by first | rfl | (simp [errW_none, errW_some] <;> rfl) | (simp only [← hji3, ← hji4]; first | rfl | (simp [errW_none, errW_some] <;> rfl)) | (simp [*, errW_none, errW_some] <;> rfl), by repeat (first | (with_reducible first | exact HB.out | apply below_alloc | apply pw_below_drewN | apply below_drew1) | exact HB.out)⟩
            · rw [if_neg c11] at H
              exact absurd H (by simp)
          · rw [if_neg c10] at H
            exact absurd H (by simp)

/-! ### rule_Threshold: function 16 -/
def rule_Threshold.f (k : Nat) (a0_0 : ByteArray) (a0_1 : Int) (a0_2 : Int) (a0_3 : Nat) (a0_4 : Bool) (a0_5 : Bool) : Option (Int) := if a0_5 = true then (some 0) else ((rule_Check.f k a0_0 a0_1 a0_2 a0_3 a0_4 a0_5).bind fun t193 => (if t193 = 0 then ((ratio_Near.f k a0_2 a0_3).bind fun t194 => (some t194)) else (some 0)))
theorem rule_Threshold.mono : ∀ a0 a1 a2 a3 a4 a5 k, LeO (rule_Threshold.f k a0 a1 a2 a3 a4 a5) (rule_Threshold.f (k + 1) a0 a1 a2 a3 a4 a5) := by
  intro a0 a1 a2 a3 a4 a5 k
  unfold rule_Threshold.f
  repeat' first
      | (with_reducible exact ratio_Near.mono _ _ _)
      | (with_reducible exact rule_Check.mono _ _ _ _ _ _ _)
      | (with_reducible exact LeO.refl _)
      | (with_reducible exact LeO.none _)
      | (with_reducible refine LeO.ite ?_ ?_)
      | (with_reducible refine LeO.bind ?_ (fun _ => ?_))
      | exact ratio_Near.mono _ _ _
      | exact rule_Check.mono _ _ _ _ _ _ _
      | exact LeO.none _
      | refine LeO.ite ?_ ?_
      | refine LeO.bind ?_ (fun _ => ?_)
set_option maxHeartbeats 8000000 in
set_option maxRecDepth 100000 in
theorem rule_Threshold.calls (k : Nat) (a0_0 : ByteArray) (a0_1 : Int) (a0_2 : Int) (a0_3 : Nat) (a0_4 : Bool) (a0_5 : Bool) (r : Int) (w : World) (h : rule_Threshold.f k a0_0 a0_1 a0_2 a0_3 a0_4 a0_5 = some r) :
    Calls Try.prog 16 #[.agg #[.string a0_0, .int .i64 a0_1, .int .i64 a0_2, .float .f64 a0_3, .bool a0_4, .bool a0_5]] w fun e w' => e = .returned (.int .i64 r) ∧ Below w.heap.size w w' := by
  have hu24 := Try.underlying24
  have HB := Aside0.mk (Below.refl w.heap.size w)
  have H : (if a0_5 = true then (some 0) else ((rule_Check.f k a0_0 a0_1 a0_2 a0_3 a0_4 a0_5).bind fun t193 => (if t193 = 0 then ((ratio_Near.f k a0_2 a0_3).bind fun t194 => (some t194)) else (some 0)))) = some r := h
  clear h
  by_cases c2 : a0_5 = true
  · subst c2
    have H1 : (some 0) = some r := by rw [if_pos rfl] at H; exact H
    clear H
    have H := H1
    clear H1
    obtain rfl := Option.some.inj H
    go_enter Try.func16, Try.ntmps16
    go_wp2_with (first | ((with_reducible refine gate_dst (N := 1) rfl ?_); refine box_event ?hg (N := 1) ?hd (cs := #[.string a0_0, .int .i64 a0_1, .int .i64 a0_2, .float .f64 a0_3, .bool a0_4, .bool true]) (t := 24) ?hr ?_; (case hd => rfl); (case hg => rfl); (case hr => first | (go_simp; done) | (go_simp; rfl)); intro gb192 hg w3 hbox hb; have n0_ := Aside0.mk (below_step (by repeat (first | (with_reducible first | exact HB.out | apply below_alloc | apply pw_below_drewN | apply below_drew1) | exact HB.out)) hb); have n1_ := Aside0.mk (hbox); have n2_ := Aside0.mk ((by rw [hg]; exact (below_size (by repeat (first | (with_reducible first | exact HB.out | apply below_alloc | apply pw_below_drewN | apply below_drew1) | exact HB.out))) : w.heap.size ≤ gb192)); have n3_ := Aside0.mk ((by rw [hg]; exact (below_size (by repeat (first | (with_reducible first | exact HB.out | apply below_alloc | apply pw_below_drewN | apply below_drew1) | exact HB.out))) : w.heap.size ≤ gb192)); clear HB; have HB := n0_; have BK192 := n1_; have GW192 := n2_; have GE192 := n3_; clear n0_ n1_ n2_ n3_; clear hb hbox hg; have hcz4_0 : w3.cell? ⟨gb192, 0, none⟩ = some (.string a0_0) := (blk_cell BK192.out 0).trans rfl; have hcz4_1 : w3.cell? ⟨gb192, 1, none⟩ = some (.int .i64 a0_1) := (blk_cell BK192.out 1).trans rfl; have hcz4_2 : w3.cell? ⟨gb192, 2, none⟩ = some (.int .i64 a0_2) := (blk_cell BK192.out 2).trans rfl; have hcz4_3 : w3.cell? ⟨gb192, 3, none⟩ = some (.float .f64 a0_3) := (blk_cell BK192.out 3).trans rfl; have hcz4_4 : w3.cell? ⟨gb192, 4, none⟩ = some (.bool a0_4) := (blk_cell BK192.out 4).trans rfl; have hcz4_5 : w3.cell? ⟨gb192, 5, none⟩ = some (.bool true) := (blk_cell BK192.out 5).trans rfl; have hfz4_0 := blk_frozen BK192.out 0; have hfz4_1 := blk_frozen BK192.out 1; have hfz4_2 := blk_frozen BK192.out 2; have hfz4_3 := blk_frozen BK192.out 3; have hfz4_4 := blk_frozen BK192.out 4; have hfz4_5 := blk_frozen BK192.out 5))
    go_ret
    exact ⟨by first | rfl | (simp [errW_none, errW_some] <;> rfl) | (simp [*, errW_none, errW_some] <;> rfl), by repeat (first | (with_reducible first | exact HB.out | apply below_alloc | apply pw_below_drewN | apply below_drew1 | refine below_set ?_ GE192.out) | exact HB.out)⟩
  · replace c2 := Bool.eq_false_iff.mpr c2
    subst c2
    have H1 : ((rule_Check.f k a0_0 a0_1 a0_2 a0_3 a0_4 false).bind fun t193 => (if t193 = 0 then ((ratio_Near.f k a0_2 a0_3).bind fun t194 => (some t194)) else (some 0))) = some r := by rw [if_neg (show ¬ (false = true) by decide)] at H; exact H
    clear H
    have H := H1
    clear H1
    replace H := Option.bind_eq_some_iff.mp H
    obtain ⟨t193, A50, H⟩ := H
    replace H : (if t193 = 0 then ((ratio_Near.f k a0_2 a0_3).bind fun t194 => (some t194)) else (some 0)) = some r := H
    have A5 := Aside0.mk A50
    clear A50
    by_cases c6 : t193 = 0
    · rw [if_pos c6] at H
      have c6b0 : (t193 == 0) = true := beq_iff_eq.mpr c6
      have c6b1 : (t193 != 0) = false := bne_eq_false_iff_eq.mpr c6
      clear c6
      replace H := Option.bind_eq_some_iff.mp H
      obtain ⟨t194, A70, H⟩ := H
      replace H : (some t194) = some r := H
      have A7 := Aside0.mk A70
      clear A70
      obtain rfl := Option.some.inj H
      go_enter Try.func16, Try.ntmps16
      go_wp2_with (first | ((with_reducible refine gate_dst (N := 1) rfl ?_); refine box_event ?hg (N := 1) ?hd (cs := #[.string a0_0, .int .i64 a0_1, .int .i64 a0_2, .float .f64 a0_3, .bool a0_4, .bool false]) (t := 24) ?hr ?_; (case hd => rfl); (case hg => rfl); (case hr => first | (go_simp; done) | (go_simp; rfl)); intro gb192 hg w8 hbox hb; have n0_ := Aside0.mk (below_step (by repeat (first | (with_reducible first | exact HB.out | apply below_alloc | apply pw_below_drewN | apply below_drew1) | exact HB.out)) hb); have n1_ := Aside0.mk (hbox); have n2_ := Aside0.mk ((by rw [hg]; exact (below_size (by repeat (first | (with_reducible first | exact HB.out | apply below_alloc | apply pw_below_drewN | apply below_drew1) | exact HB.out))) : w.heap.size ≤ gb192)); have n3_ := Aside0.mk ((by rw [hg]; exact (below_size (by repeat (first | (with_reducible first | exact HB.out | apply below_alloc | apply pw_below_drewN | apply below_drew1) | exact HB.out))) : w.heap.size ≤ gb192)); clear HB; have HB := n0_; have BK192 := n1_; have GW192 := n2_; have GE192 := n3_; clear n0_ n1_ n2_ n3_; clear hb hbox hg; have hcz9_0 : w8.cell? ⟨gb192, 0, none⟩ = some (.string a0_0) := (blk_cell BK192.out 0).trans rfl; have hcz9_1 : w8.cell? ⟨gb192, 1, none⟩ = some (.int .i64 a0_1) := (blk_cell BK192.out 1).trans rfl; have hcz9_2 : w8.cell? ⟨gb192, 2, none⟩ = some (.int .i64 a0_2) := (blk_cell BK192.out 2).trans rfl; have hcz9_3 : w8.cell? ⟨gb192, 3, none⟩ = some (.float .f64 a0_3) := (blk_cell BK192.out 3).trans rfl; have hcz9_4 : w8.cell? ⟨gb192, 4, none⟩ = some (.bool a0_4) := (blk_cell BK192.out 4).trans rfl; have hcz9_5 : w8.cell? ⟨gb192, 5, none⟩ = some (.bool false) := (blk_cell BK192.out 5).trans rfl; have hfz9_0 := blk_frozen BK192.out 0; have hfz9_1 := blk_frozen BK192.out 1; have hfz9_2 := blk_frozen BK192.out 2; have hfz9_3 := blk_frozen BK192.out 3; have hfz9_4 := blk_frozen BK192.out 4; have hfz9_5 := blk_frozen BK192.out 5) | (go_at_call 14; (with_reducible refine (rule_Check.calls k a0_0 a0_1 a0_2 a0_3 a0_4 false t193 _ A5.out).mono ?_); rintro e w10 ⟨rfl, hb⟩; have n0_ := Aside0.mk (blk_below (g := gb192) (o := .cells #[.string a0_0, .int .i64 a0_1, .int .i64 a0_2, .float .f64 a0_3, .bool a0_4, .bool false] 24 (0, 0)) (by (with_reducible repeat (first | refine blk_drewN ?_ _ | refine blk_drew ?_ | refine blk_alloc ?_ _)); exact BK192.out) hb); have n1_ := Aside0.mk (below_step (by repeat (first | (with_reducible first | exact HB.out | apply below_alloc | apply pw_below_drewN | apply below_drew1 | refine below_set ?_ GE192.out) | exact HB.out)) hb); clear BK192; clear HB; have BK192 := n0_; have HB := n1_; clear n0_ n1_; (try clear hb); (try clear hb2); (try clear hk); (try clear hi); have hcz11_0 : w10.cell? ⟨gb192, 0, none⟩ = some (.string a0_0) := (blk_cell BK192.out 0).trans rfl; have hcz11_1 : w10.cell? ⟨gb192, 1, none⟩ = some (.int .i64 a0_1) := (blk_cell BK192.out 1).trans rfl; have hcz11_2 : w10.cell? ⟨gb192, 2, none⟩ = some (.int .i64 a0_2) := (blk_cell BK192.out 2).trans rfl; have hcz11_3 : w10.cell? ⟨gb192, 3, none⟩ = some (.float .f64 a0_3) := (blk_cell BK192.out 3).trans rfl; have hcz11_4 : w10.cell? ⟨gb192, 4, none⟩ = some (.bool a0_4) := (blk_cell BK192.out 4).trans rfl; have hcz11_5 : w10.cell? ⟨gb192, 5, none⟩ = some (.bool false) := (blk_cell BK192.out 5).trans rfl; have hfz11_0 := blk_frozen BK192.out 0; have hfz11_1 := blk_frozen BK192.out 1; have hfz11_2 := blk_frozen BK192.out 2; have hfz11_3 := blk_frozen BK192.out 3; have hfz11_4 := blk_frozen BK192.out 4; have hfz11_5 := blk_frozen BK192.out 5) | ((with_reducible refine gate_callee (f := 38) rfl ?_); refine goesL_ (some 14) rfl rfl Try.func38 (by kernel_rfl) rfl #[.int .i64 a0_2, .float .f64 a0_3] rfl (by (try simp only [List.map_toArray, List.map_cons, List.map_nil]); first | done | rfl | (simp only [List.length_drop, List.length_take]; rfl)) ?_; (with_reducible refine (ratio_Near.calls k a0_2 a0_3 t194 _ A7.out).mono ?_); rintro e w12 ⟨rfl, hb⟩; refine ⟨_, rfl, ?_⟩; have n0_ := Aside0.mk (blk_below (g := gb192) (o := .cells #[.string a0_0, .int .i64 a0_1, .int .i64 a0_2, .float .f64 a0_3, .bool a0_4, .bool false] 24 (0, 0)) (by (with_reducible repeat (first | refine blk_drewN ?_ _ | refine blk_drew ?_ | refine blk_alloc ?_ _)); exact BK192.out) hb); have n1_ := Aside0.mk (below_step (by repeat (first | (with_reducible first | exact HB.out | apply below_alloc | apply pw_below_drewN | apply below_drew1 | refine below_set ?_ GE192.out) | exact HB.out)) hb); clear BK192; clear HB; have BK192 := n0_; have HB := n1_; clear n0_ n1_; (try clear hb); (try clear hb2); (try clear hk); (try clear hi)))
      go_ret
      exact ⟨by first | rfl | (simp [errW_none, errW_some] <;> rfl) | (simp [*, errW_none, errW_some] <;> rfl), by repeat (first | (with_reducible first | exact HB.out | apply below_alloc | apply pw_below_drewN | apply below_drew1 | refine below_set ?_ GE192.out) | exact HB.out)⟩
    · rw [if_neg c6] at H
      have c6b0 : (t193 == 0) = false := beq_eq_false_iff_ne.mpr c6
      have c6b1 : (t193 != 0) = true := bne_iff_ne.mpr c6
      obtain rfl := Option.some.inj H
      go_enter Try.func16, Try.ntmps16
      go_wp2_with (first | ((with_reducible refine gate_dst (N := 1) rfl ?_); refine box_event ?hg (N := 1) ?hd (cs := #[.string a0_0, .int .i64 a0_1, .int .i64 a0_2, .float .f64 a0_3, .bool a0_4, .bool false]) (t := 24) ?hr ?_; (case hd => rfl); (case hg => rfl); (case hr => first | (go_simp; done) | (go_simp; rfl)); intro gb192 hg w13 hbox hb; have n0_ := Aside0.mk (below_step (by repeat (first | (with_reducible first | exact HB.out | apply below_alloc | apply pw_below_drewN | apply below_drew1) | exact HB.out)) hb); have n1_ := Aside0.mk (hbox); have n2_ := Aside0.mk ((by rw [hg]; exact (below_size (by repeat (first | (with_reducible first | exact HB.out | apply below_alloc | apply pw_below_drewN | apply below_drew1) | exact HB.out))) : w.heap.size ≤ gb192)); have n3_ := Aside0.mk ((by rw [hg]; exact (below_size (by repeat (first | (with_reducible first | exact HB.out | apply below_alloc | apply pw_below_drewN | apply below_drew1) | exact HB.out))) : w.heap.size ≤ gb192)); clear HB; have HB := n0_; have BK192 := n1_; have GW192 := n2_; have GE192 := n3_; clear n0_ n1_ n2_ n3_; clear hb hbox hg; have hcz14_0 : w13.cell? ⟨gb192, 0, none⟩ = some (.string a0_0) := (blk_cell BK192.out 0).trans rfl; have hcz14_1 : w13.cell? ⟨gb192, 1, none⟩ = some (.int .i64 a0_1) := (blk_cell BK192.out 1).trans rfl; have hcz14_2 : w13.cell? ⟨gb192, 2, none⟩ = some (.int .i64 a0_2) := (blk_cell BK192.out 2).trans rfl; have hcz14_3 : w13.cell? ⟨gb192, 3, none⟩ = some (.float .f64 a0_3) := (blk_cell BK192.out 3).trans rfl; have hcz14_4 : w13.cell? ⟨gb192, 4, none⟩ = some (.bool a0_4) := (blk_cell BK192.out 4).trans rfl; have hcz14_5 : w13.cell? ⟨gb192, 5, none⟩ = some (.bool false) := (blk_cell BK192.out 5).trans rfl; have hfz14_0 := blk_frozen BK192.out 0; have hfz14_1 := blk_frozen BK192.out 1; have hfz14_2 := blk_frozen BK192.out 2; have hfz14_3 := blk_frozen BK192.out 3; have hfz14_4 := blk_frozen BK192.out 4; have hfz14_5 := blk_frozen BK192.out 5) | (go_at_call 14; (with_reducible refine (rule_Check.calls k a0_0 a0_1 a0_2 a0_3 a0_4 false t193 _ A5.out).mono ?_); rintro e w15 ⟨rfl, hb⟩; have n0_ := Aside0.mk (blk_below (g := gb192) (o := .cells #[.string a0_0, .int .i64 a0_1, .int .i64 a0_2, .float .f64 a0_3, .bool a0_4, .bool false] 24 (0, 0)) (by (with_reducible repeat (first | refine blk_drewN ?_ _ | refine blk_drew ?_ | refine blk_alloc ?_ _)); exact BK192.out) hb); have n1_ := Aside0.mk (below_step (by repeat (first | (with_reducible first | exact HB.out | apply below_alloc | apply pw_below_drewN | apply below_drew1 | refine below_set ?_ GE192.out) | exact HB.out)) hb); clear BK192; clear HB; have BK192 := n0_; have HB := n1_; clear n0_ n1_; (try clear hb); (try clear hb2); (try clear hk); (try clear hi)))
      go_ret
      exact ⟨by first | rfl | (simp [errW_none, errW_some] <;> rfl) | (simp [*, errW_none, errW_some] <;> rfl), by repeat (first | (with_reducible first | exact HB.out | apply below_alloc | apply pw_below_drewN | apply below_drew1 | refine below_set ?_ GE192.out) | exact HB.out)⟩

/-! ### unit_names: function 65 -/
def unit_names.f  : Option (List ByteArray) := some (([(⟨#[]⟩ : ByteArray), (⟨#[115, 101, 99, 111, 110, 100]⟩ : ByteArray), (⟨#[109, 105, 110, 117, 116, 101]⟩ : ByteArray), (⟨#[104, 111, 117, 114]⟩ : ByteArray), (⟨#[100, 97, 121]⟩ : ByteArray)] : List ByteArray))
set_option maxHeartbeats 8000000 in
set_option maxRecDepth 100000 in
theorem unit_names.calls  (r : List ByteArray) (w : World) (h : unit_names.f  = some r) :
    Calls Try.prog 65 #[] w fun e w' => ∃ v0_ : Value, e = .returned (v0_) ∧ Kd.R Kd.string 9 w' w.heap.size (fun _ => True) v0_ r ∧ Below w.heap.size w w' := by
  have HB := Aside0.mk (Below.refl w.heap.size w)
  have H : (some (([(⟨#[]⟩ : ByteArray), (⟨#[115, 101, 99, 111, 110, 100]⟩ : ByteArray), (⟨#[109, 105, 110, 117, 116, 101]⟩ : ByteArray), (⟨#[104, 111, 117, 114]⟩ : ByteArray), (⟨#[100, 97, 121]⟩ : ByteArray)] : List ByteArray))) = some r := h
  clear h
  obtain ⟨y195, hy195⟩ : ∃ y_ : List ByteArray, y_ = (([(⟨#[]⟩ : ByteArray), (⟨#[115, 101, 99, 111, 110, 100]⟩ : ByteArray), (⟨#[109, 105, 110, 117, 116, 101]⟩ : ByteArray), (⟨#[104, 111, 117, 114]⟩ : ByteArray), (⟨#[100, 97, 121]⟩ : ByteArray)] : List ByteArray)) := ⟨_, rfl⟩
  replace H : (some y195) = some r := by first | (rw [hy195]; with_reducible exact H) | (have H2_ := (Option.bind_some _ _).symm.trans H; rw [hy195]; with_reducible exact H2_) | (have H2_ := (Option.bind_some _ _).symm.trans H; with_reducible exact H2_) | with_reducible exact H | (rw [hy195]; exact H) | exact H
  have Ny195 := Aside0.mk hy195
  clear hy195
  obtain rfl := Option.some.inj H
  go_enter Try.func65, Try.ntmps65
  go_wp2_with (first | ((with_reducible refine gate_dst (N := 1) rfl ?_); refine Kd.R_lit Kd.string _ 9 ?hg (N := 1) ?hd (xs := ([(⟨#[]⟩ : ByteArray), (⟨#[115, 101, 99, 111, 110, 100]⟩ : ByteArray), (⟨#[109, 105, 110, 117, 116, 101]⟩ : ByteArray), (⟨#[104, 111, 117, 114]⟩ : ByteArray), (⟨#[100, 97, 121]⟩ : ByteArray)] : List ByteArray)) (inner := [.string (⟨#[]⟩ : ByteArray), .string (⟨#[115, 101, 99, 111, 110, 100]⟩ : ByteArray), .string (⟨#[109, 105, 110, 117, 116, 101]⟩ : ByteArray), .string (⟨#[104, 111, 117, 114]⟩ : ByteArray), .string (⟨#[100, 97, 121]⟩ : ByteArray)]) (ok := fun _ => True) (okp := fun _ => True) ?hr ?hp (fun _ hk => hk) trivial (Below.refl _ _) (Nat.le_refl _) (by simp) ?_; (case hd => rfl); (case hg => rfl); (case hr => first | (go_simp; done) | (go_simp; rfl)); (case hp => exact (Reps.one (show Kd.M Kd.string _ _ _ (⟨#[]⟩ : ByteArray) [.string (⟨#[]⟩ : ByteArray)] from rfl) (Reps.one (show Kd.M Kd.string _ _ _ (⟨#[115, 101, 99, 111, 110, 100]⟩ : ByteArray) [.string (⟨#[115, 101, 99, 111, 110, 100]⟩ : ByteArray)] from rfl) (Reps.one (show Kd.M Kd.string _ _ _ (⟨#[109, 105, 110, 117, 116, 101]⟩ : ByteArray) [.string (⟨#[109, 105, 110, 117, 116, 101]⟩ : ByteArray)] from rfl) (Reps.one (show Kd.M Kd.string _ _ _ (⟨#[104, 111, 117, 114]⟩ : ByteArray) [.string (⟨#[104, 111, 117, 114]⟩ : ByteArray)] from rfl) (Reps.one (show Kd.M Kd.string _ _ _ (⟨#[100, 97, 121]⟩ : ByteArray) [.string (⟨#[100, 97, 121]⟩ : ByteArray)] from rfl) (Reps.none _ _))))))); intro v196 w1 ho2 hb hg_ hnew_; clear hg_ hnew_; (first | rw [← Ny195.out] at ho2 | (simp only [Int.reduceToNat] at ho2; rw [← Ny195.out] at ho2)); have n0_ := Aside0.mk (Kd.R_lower ho2 (below_size (by repeat (first | (with_reducible first | exact HB.out | apply below_alloc | apply pw_below_drewN | apply below_drew1) | exact HB.out)))); have n1_ := Aside0.mk (below_step (by repeat (first | (with_reducible first | exact HB.out | apply below_alloc | apply pw_below_drewN | apply below_drew1) | exact HB.out)) hb); clear HB; have HO197 := n0_; have HB := n1_; clear n0_ n1_; clear hb ho2))
  go_ret
  exact ⟨_, by first | rfl | (simp [errW_none, errW_some] <;> rfl) | (simp [*, errW_none, errW_some] <;> rfl), by (with_reducible repeat (first | apply Kd.R_alloc | apply Kd.R_drewN | apply Kd.R_drew)); exact HO197.out, by repeat (first | (with_reducible first | exact HB.out | apply below_alloc | apply pw_below_drewN | apply below_drew1) | exact HB.out)⟩

/-! ### unit_Name: function 42 -/
def unit_Name.f (a0 : Int) : Option (ByteArray) := (unit_Secs.f a0).bind fun t198 => (if t198 = 0 then (some (⟨#[]⟩ : ByteArray)) else ((unit_names.f).bind fun t199 => (if 0 ≤ a0 then (if a0 < (t199.length : Int) then (some (rdOf ByteArray.empty t199 a0)) else (none)) else (none))))
set_option maxHeartbeats 8000000 in
set_option maxRecDepth 100000 in
theorem unit_Name.calls (a0 : Int) (r : ByteArray) (w : World) (h : unit_Name.f a0 = some r) :
    Calls Try.prog 42 #[.int .i64 a0] w fun e w' => e = .returned (.string r) ∧ Below w.heap.size w w' := by
  have HB := Aside0.mk (Below.refl w.heap.size w)
  have H : ((unit_Secs.f a0).bind fun t198 => (if t198 = 0 then (some (⟨#[]⟩ : ByteArray)) else ((unit_names.f).bind fun t199 => (if 0 ≤ a0 then (if a0 < (t199.length : Int) then (some (rdOf ByteArray.empty t199 a0)) else (none)) else (none))))) = some r := h
  clear h
  replace H := Option.bind_eq_some_iff.mp H
  obtain ⟨t198, A20, H⟩ := H
  replace H : (if t198 = 0 then (some (⟨#[]⟩ : ByteArray)) else ((unit_names.f).bind fun t199 => (if 0 ≤ a0 then (if a0 < (t199.length : Int) then (some (rdOf ByteArray.empty t199 a0)) else (none)) else (none)))) = some r := H
  have A2 := Aside0.mk A20
  clear A20
  by_cases c3 : t198 = 0
  · rw [if_pos c3] at H
    have c3b0 : (t198 == 0) = true := beq_iff_eq.mpr c3
    have c3b1 : (t198 != 0) = false := bne_eq_false_iff_eq.mpr c3
    clear c3
    obtain rfl := Option.some.inj H
    go_enter Try.func42, Try.ntmps42
    go_wp2_with (first | ((with_reducible refine gate_callee (f := 31) rfl ?_); refine goesL_ (some 4) rfl rfl Try.func31 (by kernel_rfl) rfl #[.int .i64 a0] rfl (by (try simp only [List.map_toArray, List.map_cons, List.map_nil]); first | done | rfl | (simp only [List.length_drop, List.length_take]; rfl)) ?_; (with_reducible refine (unit_Secs.calls a0 t198 _ A2.out).mono ?_); rintro e w4 ⟨rfl, hb⟩; refine ⟨_, rfl, ?_⟩; have n0_ := Aside0.mk (below_step (by repeat (first | (with_reducible first | exact HB.out | apply below_alloc | apply pw_below_drewN | apply below_drew1) | exact HB.out)) hb); clear HB; have HB := n0_; clear n0_; (try clear hb); (try clear hb2); (try clear hk); (try clear hi)))
    go_ret
    exact ⟨by first | rfl | (simp [errW_none, errW_some] <;> rfl) | (simp [*, errW_none, errW_some] <;> rfl), by repeat (first | (with_reducible first | exact HB.out | apply below_alloc | apply pw_below_drewN | apply below_drew1) | exact HB.out)⟩
  · rw [if_neg c3] at H
    have c3b0 : (t198 == 0) = false := beq_eq_false_iff_ne.mpr c3
    have c3b1 : (t198 != 0) = true := bne_iff_ne.mpr c3
    replace H := Option.bind_eq_some_iff.mp H
    obtain ⟨t199, A50, H⟩ := H
    replace H : (if 0 ≤ a0 then (if a0 < (t199.length : Int) then (some (rdOf ByteArray.empty t199 a0)) else (none)) else (none)) = some r := H
    have A5 := Aside0.mk A50
    clear A50
    by_cases c6 : 0 ≤ a0
    · rw [if_pos c6] at H
      have c6b0 : decide (0 ≤ a0) = true := decide_eq_true c6
      clear c6
      by_cases c7 : a0 < (t199.length : Int)
      · rw [if_pos c7] at H
        have c7b0 : decide (a0 < (t199.length : Int)) = true := decide_eq_true c7
        clear c7
        obtain rfl := Option.some.inj H
        go_enter Try.func42, Try.ntmps42
        go_wp2_with (first | ((with_reducible refine gate_callee (f := 31) rfl ?_); refine goesL_ (some 4) rfl rfl Try.func31 (by kernel_rfl) rfl #[.int .i64 a0] rfl (by (try simp only [List.map_toArray, List.map_cons, List.map_nil]); first | done | rfl | (simp only [List.length_drop, List.length_take]; rfl)) ?_; (with_reducible refine (unit_Secs.calls a0 t198 _ A2.out).mono ?_); rintro e w8 ⟨rfl, hb⟩; refine ⟨_, rfl, ?_⟩; have n0_ := Aside0.mk (below_step (by repeat (first | (with_reducible first | exact HB.out | apply below_alloc | apply pw_below_drewN | apply below_drew1) | exact HB.out)) hb); clear HB; have HB := n0_; clear n0_; (try clear hb); (try clear hb2); (try clear hk); (try clear hi)) | ((with_reducible refine gate_callee (f := 65) rfl ?_); refine goesL_ (some 6) rfl rfl Try.func65 (by kernel_rfl) rfl #[] rfl (by (try simp only [List.map_toArray, List.map_cons, List.map_nil]); first | done | rfl | (simp only [List.length_drop, List.length_take]; rfl)) ?_; (with_reducible refine (unit_names.calls  t199 _ A5.out).mono ?_); rintro e w9 ⟨v200, rfl, ho0, hb⟩; refine ⟨_, rfl, ?_⟩; have n0_ := Aside0.mk (Kd.R_lower ho0 (below_size (by repeat (first | (with_reducible first | exact HB.out | apply below_alloc | apply pw_below_drewN | apply below_drew1) | exact HB.out)))); have n1_ := Aside0.mk (below_step (by repeat (first | (with_reducible first | exact HB.out | apply below_alloc | apply pw_below_drewN | apply below_drew1) | exact HB.out)) hb); clear HB; have HO201 := n0_; have HB := n1_; clear n0_ n1_; (try clear hb); (try clear hb2); (try clear hk); (try clear hi); (try clear ho0); obtain ⟨Ao10, co10, eo10⟩ := Kd.R_slice HO201.out; subst eo10; have p202 : 0 ≤ (a0 : Int) := of_decide_eq_true (by first | (with_reducible assumption) | assumption); have q202 : a0 < (t199.length : Int) := of_decide_eq_true (by first | (with_reducible assumption) | assumption); obtain ⟨ad202, e202, hx202_0⟩ := Kd.at_string (Kd.R_reads' HO201.out).2.2 a0 p202 q202; cases e202; replace p202 := eq_true p202; replace q202 := eq_true q202))
        go_ret
        exact ⟨by first | rfl | (simp [errW_none, errW_some] <;> rfl) | (simp [*, errW_none, errW_some] <;> rfl), by repeat (first | (with_reducible first | exact HB.out | apply below_alloc | apply pw_below_drewN | apply below_drew1) | exact HB.out)⟩
      · rw [if_neg c7] at H
        exact absurd H (by simp)
    · rw [if_neg c6] at H
      exact absurd H (by simp)

/-! ### strings_IndexByte: function 90 (my own) -/
def strings_IndexByte.f (a0 : ByteArray) (a1 : Int) : Option (Int) := some (Lib.indexByte a0.data.toList a1.toNat.toUInt8)
theorem strings_IndexByte.calls (a0 : ByteArray) (a1 : Int) (r : Int) (w : World) (h : strings_IndexByte.f a0 a1 = some r) :
    Calls Try.prog 90 #[.string a0, .int .u8 a1] w fun e w' => e = .returned (.int .i64 r) ∧ Drawn0 w w' := by
  obtain rfl := Option.some.inj h
  exact (Try.strings_IndexByte a0 a1 w).mono (by rintro e w' ⟨rfl, rfl⟩; exact ⟨rfl, Drawn0.refl _⟩)

/-! ### desc_itself: function 66 (my own) -/
def desc_itself.self (c : Int) : Bool := decide ((97 ≤ c ∧ c ≤ 122) ∨ (65 ≤ c ∧ c ≤ 90) ∨ (48 ≤ c ∧ c ≤ 57) ∨ 0 ≤ Lib.indexByte [45, 95, 46, 47, 58] c.toNat.toUInt8)
def desc_itself.f (a0 : Int) : Option (Bool) := some (desc_itself.self a0)
set_option maxRecDepth 100000 in
theorem desc_itself.calls (c : Int) (r : Bool) (w : World) (h : desc_itself.f c = some r) :
    Calls Try.prog 66 #[.int .u8 c] w fun e w' => e = .returned (.bool r) ∧ Drawn0 w w' := by
  obtain rfl := Option.some.inj h
  clear h
  by_cases h1 : 97 ≤ c
  · have d1 : decide (97 ≤ c) = true := decide_eq_true h1
    by_cases h2 : c ≤ 122
    · have d2 : decide (c ≤ 122) = true := decide_eq_true h2
      have hs := Aside0.mk (show desc_itself.self c = true from decide_eq_true (.inl ⟨h1, h2⟩))
      clear h1 h2
      go_enter Try.func66, Try.ntmps66
      go_wp2
      go_ret
      exact ⟨by rw [hs.out]; first | rfl | simp, Drawn0.refl _⟩
    · have d2 : decide (c ≤ 122) = false := decide_eq_false h2
      have d3 : decide (65 ≤ c) = true := decide_eq_true (by omega)
      have d4 : decide (c ≤ 90) = false := decide_eq_false (by omega)
      have d5 : decide (48 ≤ c) = true := decide_eq_true (by omega)
      have d6 : decide (c ≤ 57) = false := decide_eq_false (by omega)
      have hs := Aside0.mk (show desc_itself.self c = decide (0 ≤ Lib.indexByte [45, 95, 46, 47, 58] c.toNat.toUInt8) from by unfold desc_itself.self; rw [decide_eq_decide]; omega)
      clear h1 h2
      go_enter Try.func66, Try.ntmps66
      go_wp2_with fail
      (with_reducible refine (strings_IndexByte.calls _ c _ _ rfl).mono ?_); rintro e w' ⟨rfl, ⟨nd, rfl⟩⟩
      go_wp2
      go_ret
      exact ⟨by rw [hs.out]; rfl, by repeat (first | exact Drawn0.refl _ | apply Drawn0.step)⟩
  · have d1 : decide (97 ≤ c) = false := decide_eq_false h1
    by_cases h3 : 65 ≤ c
    · have d3 : decide (65 ≤ c) = true := decide_eq_true h3
      by_cases h4 : c ≤ 90
      · have d4 : decide (c ≤ 90) = true := decide_eq_true h4
        have hs := Aside0.mk (show desc_itself.self c = true from decide_eq_true (.inr (.inl ⟨h3, h4⟩)))
        clear h1 h3 h4
        go_enter Try.func66, Try.ntmps66
        go_wp2
        go_ret
        exact ⟨by rw [hs.out]; first | rfl | simp, Drawn0.refl _⟩
      · have d4 : decide (c ≤ 90) = false := decide_eq_false h4
        have d5 : decide (48 ≤ c) = true := decide_eq_true (by omega)
        have d6 : decide (c ≤ 57) = false := decide_eq_false (by omega)
        have hs := Aside0.mk (show desc_itself.self c = decide (0 ≤ Lib.indexByte [45, 95, 46, 47, 58] c.toNat.toUInt8) from by unfold desc_itself.self; rw [decide_eq_decide]; omega)
        clear h1 h3 h4
        go_enter Try.func66, Try.ntmps66
        go_wp2_with fail
        (with_reducible refine (strings_IndexByte.calls _ c _ _ rfl).mono ?_); rintro e w' ⟨rfl, ⟨nd, rfl⟩⟩
        go_wp2
        go_ret
        exact ⟨by rw [hs.out]; rfl, by repeat (first | exact Drawn0.refl _ | apply Drawn0.step)⟩
    · have d3 : decide (65 ≤ c) = false := decide_eq_false h3
      by_cases h5 : 48 ≤ c
      · have d5 : decide (48 ≤ c) = true := decide_eq_true h5
        by_cases h6 : c ≤ 57
        · have d6 : decide (c ≤ 57) = true := decide_eq_true h6
          have hs := Aside0.mk (show desc_itself.self c = true from decide_eq_true (.inr (.inr (.inl ⟨h5, h6⟩))))
          clear h1 h3 h5 h6
          go_enter Try.func66, Try.ntmps66
          go_wp2
          go_ret
          exact ⟨by rw [hs.out]; first | rfl | simp, Drawn0.refl _⟩
        · have d6 : decide (c ≤ 57) = false := decide_eq_false h6
          have hs := Aside0.mk (show desc_itself.self c = decide (0 ≤ Lib.indexByte [45, 95, 46, 47, 58] c.toNat.toUInt8) from by unfold desc_itself.self; rw [decide_eq_decide]; omega)
          clear h1 h3 h5 h6
          go_enter Try.func66, Try.ntmps66
          go_wp2_with fail
          (with_reducible refine (strings_IndexByte.calls _ c _ _ rfl).mono ?_); rintro e w' ⟨rfl, ⟨nd, rfl⟩⟩
          go_wp2
          go_ret
          exact ⟨by rw [hs.out]; rfl, by repeat (first | exact Drawn0.refl _ | apply Drawn0.step)⟩
      · have d5 : decide (48 ≤ c) = false := decide_eq_false h5
        have hs := Aside0.mk (show desc_itself.self c = decide (0 ≤ Lib.indexByte [45, 95, 46, 47, 58] c.toNat.toUInt8) from by unfold desc_itself.self; rw [decide_eq_decide]; omega)
        clear h1 h3 h5
        go_enter Try.func66, Try.ntmps66
        go_wp2_with fail
        (with_reducible refine (strings_IndexByte.calls _ c _ _ rfl).mono ?_); rintro e w' ⟨rfl, ⟨nd, rfl⟩⟩
        go_wp2
        go_ret
        exact ⟨by rw [hs.out]; rfl, by repeat (first | exact Drawn0.refl _ | apply Drawn0.step)⟩

end Go.Proofs.Ytofebccpghkmgaa.PRuleSame
