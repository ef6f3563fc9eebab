/- What the law TrieFits uses, thinned: printed by shake2.py. -/
import Derived.Test.YtipbigdpannlcaaTTrieFitsPTrieFitsx0
import Derived.Test.YtipbigdpannlcaaTTrieFitsPTrieFitsx1
import Derived.Test.YtipbigdpannlcaaTTrieFitsPTrieFitsx4
namespace Go.Proofs.Ytipbigdpannlcaa.PTrieFits
open Go.RowKit Go.Proofs.YtipbigdpannlcaaW.PrintWords Go.Proofs.YtipbigdpannlcaaW.PrintLast Go.Proofs.YtipbigdpannlcaaW.PrintMore
attribute [local go_sem] max2_int min2_int max_two min_two max_three min_three max_four min_four
set_option linter.unusedVariables false
set_option linter.unusedSimpArgs false
def rule_Check.j0 : Nat → Bool → ByteArray → Int → Int → Nat → Bool → Bool → Option (Int)
  | 0, _, _, _, _, _, _, _ => none
  | k + 1, x3, x172000, x172001, x172002, x172003, x172004, x172005 => if x172005 = true then (if x172001 = 0 then (if x172002 = 0 then ((ratio_Same.f x172003 0).bind fun t174 => (if t174 = true then (if x172000.toList = ([] : List UInt8) then (some 0) else ((desc_Name.f k x172000).bind fun t175 => (if t175 = true then (some 0) else (some 1)))) else (some 1))) else (some 1)) else (some 1)) else (if x3 = true then (if x172000.toList = ([] : List UInt8) then (some 0) else ((desc_Name.f k x172000).bind fun t176 => (if t176 = true then (some 0) else (some 1)))) else (some 1))
def rule_Check.f (k : Nat) (a0_0 : ByteArray) (a0_1 : Int) (a0_2 : Int) (a0_3 : Nat) (a0_4 : Bool) (a0_5 : Bool) : Option (Int) := (unit_Secs.f a0_1).bind fun t172 => (if t172 > 0 then (if a0_2 ≥ 0 then (if a0_2 ≤ 4294967295 then ((rule_near.f k a0_3).bind fun t173 => (rule_Check.j0 k t173 a0_0 a0_1 a0_2 a0_3 a0_4 a0_5)) else (rule_Check.j0 k false a0_0 a0_1 a0_2 a0_3 a0_4 a0_5)) else (rule_Check.j0 k false a0_0 a0_1 a0_2 a0_3 a0_4 a0_5)) else (rule_Check.j0 k false a0_0 a0_1 a0_2 a0_3 a0_4 a0_5))
set_option maxHeartbeats 8000000 in
set_option maxRecDepth 100000 in
theorem rule_Check.calls (k : Nat) (a0_0 : ByteArray) (a0_1 : Int) (a0_2 : Int) (a0_3 : Nat) (a0_4 : Bool) (a0_5 : Bool) (r : Int) (w : World) (h : rule_Check.f k a0_0 a0_1 a0_2 a0_3 a0_4 a0_5 = some r) :
    Calls Try.prog 54 #[.agg #[.string a0_0, .int .i64 a0_1, .int .i64 a0_2, .float .f64 a0_3, .bool a0_4, .bool a0_5]] w fun e w' => e = .returned (.int .i64 r) ∧ Below w.heap.size w w' := by
  have hu44 := Try.underlying44
  have HB := Aside0.mk (Below.refl w.heap.size w)
  have H : ((unit_Secs.f a0_1).bind fun t172 => (if t172 > 0 then (if a0_2 ≥ 0 then (if a0_2 ≤ 4294967295 then ((rule_near.f k a0_3).bind fun t173 => (rule_Check.j0 k t173 a0_0 a0_1 a0_2 a0_3 a0_4 a0_5)) else (rule_Check.j0 k false a0_0 a0_1 a0_2 a0_3 a0_4 a0_5)) else (rule_Check.j0 k false a0_0 a0_1 a0_2 a0_3 a0_4 a0_5)) else (rule_Check.j0 k false a0_0 a0_1 a0_2 a0_3 a0_4 a0_5))) = some r := h
  clear h
  have HC2 := Aside0.mk H
  clear H
  go_enter Try.func54, Try.ntmps54
  go_upto_region 1 with (first | ((with_reducible refine gate_dst (N := 1) rfl ?_); refine box_event ?hg (N := 1) ?hd (cs := #[.string a0_0, .int .i64 a0_1, .int .i64 a0_2, .float .f64 a0_3, .bool a0_4, .bool a0_5]) (t := 44) ?hr ?_; (case hd => rfl); (case hg => rfl); (case hr => first | (go_simp; done) | (go_simp; rfl)); intro gb171 hg w3 hbox hb; have n0_ := Aside0.mk (below_step (by repeat (first | (with_reducible first | exact HB.out | apply below_alloc | apply pw_below_drewN | apply below_drew1) | exact HB.out)) hb); have n1_ := Aside0.mk (hbox); have n2_ := Aside0.mk ((by rw [hg]; exact (below_size (by repeat (first | (with_reducible first | exact HB.out | apply below_alloc | apply pw_below_drewN | apply below_drew1) | exact HB.out))) : w.heap.size ≤ gb171)); have n3_ := Aside0.mk ((by rw [hg]; exact (below_size (by repeat (first | (with_reducible first | exact HB.out | apply below_alloc | apply pw_below_drewN | apply below_drew1) | exact HB.out))) : w.heap.size ≤ gb171)); clear HB; have HB := n0_; have BK171 := n1_; have GW171 := n2_; have GE171 := n3_; clear n0_ n1_ n2_ n3_; clear hb hbox hg))
  (try simp only [Act.put, List.setIfInBounds_toArray, List.set_cons_zero, List.set_cons_succ])
  go_cut [3] (fun v3 wc => ∃ (kq : Nat) (x3_1 : Bool), v3 = .bool x3_1 ∧ Aside0 (rule_Check.j0 kq x3_1 a0_0 a0_1 a0_2 a0_3 a0_4 a0_5 = some r) ∧ Aside0 (kq ≤ k) ∧ Aside0 (wc.heap[gb171]? = some (.cells #[.string a0_0, .int .i64 a0_1, .int .i64 a0_2, .float .f64 a0_3, .bool a0_4, .bool a0_5] 44 (0, 0))) ∧ Aside0 (Below w.heap.size w wc))
  case first =>
    have H := HC2.out
    clear HC2
    replace H := Option.bind_eq_some_iff.mp H
    obtain ⟨t172, A40, H⟩ := H
    replace H : (if t172 > 0 then (if a0_2 ≥ 0 then (if a0_2 ≤ 4294967295 then ((rule_near.f k a0_3).bind fun t173 => (rule_Check.j0 k t173 a0_0 a0_1 a0_2 a0_3 a0_4 a0_5)) else (rule_Check.j0 k false a0_0 a0_1 a0_2 a0_3 a0_4 a0_5)) else (rule_Check.j0 k false a0_0 a0_1 a0_2 a0_3 a0_4 a0_5)) else (rule_Check.j0 k false a0_0 a0_1 a0_2 a0_3 a0_4 a0_5)) = some r := H
    have A4 := Aside0.mk A40
    clear A40
    by_cases c5 : t172 > 0
    · rw [if_pos c5] at H
      have c5b0 : decide (0 < t172) = true := decide_eq_true c5
      clear c5
      (first | rw [c5b0] | (simp only [i64_w, i32_w]; rw [c5b0]) | skip)
      by_cases c6 : a0_2 ≥ 0
      · rw [if_pos c6] at H
        have c6b0 : decide (0 ≤ a0_2) = true := decide_eq_true c6
        clear c6
        by_cases c7 : a0_2 ≤ 4294967295
        · rw [if_pos c7] at H
          have c7b0 : decide (a0_2 ≤ 4294967295) = true := decide_eq_true c7
          clear c7
          replace H := Option.bind_eq_some_iff.mp H
          obtain ⟨t173, A80, H⟩ := H
          replace H : (rule_Check.j0 k t173 a0_0 a0_1 a0_2 a0_3 a0_4 a0_5) = some r := H
          have A8 := Aside0.mk A80
          clear A80
          have H' := Aside0.mk H
          clear H
          have hcz9_0 : w3.cell? ⟨gb171, 0, none⟩ = some (.string a0_0) := (blk_cell BK171.out 0).trans rfl
          have hcz9_1 : w3.cell? ⟨gb171, 1, none⟩ = some (.int .i64 a0_1) := (blk_cell BK171.out 1).trans rfl
          have hcz9_2 : w3.cell? ⟨gb171, 2, none⟩ = some (.int .i64 a0_2) := (blk_cell BK171.out 2).trans rfl
          have hcz9_3 : w3.cell? ⟨gb171, 3, none⟩ = some (.float .f64 a0_3) := (blk_cell BK171.out 3).trans rfl
          have hcz9_4 : w3.cell? ⟨gb171, 4, none⟩ = some (.bool a0_4) := (blk_cell BK171.out 4).trans rfl
          have hcz9_5 : w3.cell? ⟨gb171, 5, none⟩ = some (.bool a0_5) := (blk_cell BK171.out 5).trans rfl
          have hfz9_0 := blk_frozen BK171.out 0
          have hfz9_1 := blk_frozen BK171.out 1
          have hfz9_2 := blk_frozen BK171.out 2
          have hfz9_3 := blk_frozen BK171.out 3
          have hfz9_4 := blk_frozen BK171.out 4
          have hfz9_5 := blk_frozen BK171.out 5
          go_wp2_with (first | ((with_reducible refine gate_callee (f := 64) rfl ?_); refine goesL_ (some 6) rfl rfl Try.func64 (by kernel_rfl) rfl #[.int .i64 a0_1] rfl (by (try simp only [List.map_toArray, List.map_cons, List.map_nil]); first | done | rfl | (simp only [List.length_drop, List.length_take]; rfl)) ?_; (with_reducible refine (unit_Secs.calls a0_1 t172 _ A4.out).mono ?_); rintro e w10 ⟨rfl, hb⟩; refine ⟨_, rfl, ?_⟩; have n0_ := Aside0.mk (blk_below (g := gb171) (o := .cells #[.string a0_0, .int .i64 a0_1, .int .i64 a0_2, .float .f64 a0_3, .bool a0_4, .bool a0_5] 44 (0, 0)) (by (with_reducible repeat (first | refine blk_drewN ?_ _ | refine blk_drew ?_ | refine blk_alloc ?_ _)); exact BK171.out) hb); have n1_ := Aside0.mk (below_step (by repeat (first | (with_reducible first | exact HB.out | apply below_alloc | apply pw_below_drewN | apply below_drew1 | refine below_set ?_ GE171.out) | exact HB.out)) hb); clear BK171; clear HB; have BK171 := n0_; have HB := n1_; clear n0_ n1_; (try clear hb); (try clear hb2); (try clear hk); (try clear hi); have hcz11_0 : w10.cell? ⟨gb171, 0, none⟩ = some (.string a0_0) := (blk_cell BK171.out 0).trans rfl; have hcz11_1 : w10.cell? ⟨gb171, 1, none⟩ = some (.int .i64 a0_1) := (blk_cell BK171.out 1).trans rfl; have hcz11_2 : w10.cell? ⟨gb171, 2, none⟩ = some (.int .i64 a0_2) := (blk_cell BK171.out 2).trans rfl; have hcz11_3 : w10.cell? ⟨gb171, 3, none⟩ = some (.float .f64 a0_3) := (blk_cell BK171.out 3).trans rfl; have hcz11_4 : w10.cell? ⟨gb171, 4, none⟩ = some (.bool a0_4) := (blk_cell BK171.out 4).trans rfl; have hcz11_5 : w10.cell? ⟨gb171, 5, none⟩ = some (.bool a0_5) := (blk_cell BK171.out 5).trans rfl; have hfz11_0 := blk_frozen BK171.out 0; have hfz11_1 := blk_frozen BK171.out 1; have hfz11_2 := blk_frozen BK171.out 2; have hfz11_3 := blk_frozen BK171.out 3; have hfz11_4 := blk_frozen BK171.out 4; have hfz11_5 := blk_frozen BK171.out 5) | (go_at_call 65; (with_reducible refine (rule_near.calls k a0_3 t173 _ A8.out).mono ?_); rintro e w12 ⟨rfl, hb⟩; have n0_ := Aside0.mk (blk_below (g := gb171) (o := .cells #[.string a0_0, .int .i64 a0_1, .int .i64 a0_2, .float .f64 a0_3, .bool a0_4, .bool a0_5] 44 (0, 0)) (by (with_reducible repeat (first | refine blk_drewN ?_ _ | refine blk_drew ?_ | refine blk_alloc ?_ _)); exact BK171.out) hb); have n1_ := Aside0.mk (below_step (by repeat (first | (with_reducible first | exact HB.out | apply below_alloc | apply pw_below_drewN | apply below_drew1 | refine below_set ?_ GE171.out) | exact HB.out)) hb); clear BK171; clear HB; have BK171 := n0_; have HB := n1_; clear n0_ n1_; (try clear hb); (try clear hb2); (try clear hk); (try clear hi)))
          go_meet
          case rel => exact ⟨_, (t173), (by first | rfl | (simp; done) | (simp [*]; done)), H', ⟨by first | omega | exact Nat.le_refl _⟩, ⟨by (with_reducible repeat (first | refine blk_drewN ?_ _ | refine blk_drew ?_ | refine blk_alloc ?_ _)); exact BK171.out⟩, ⟨by repeat (first | (with_reducible first | exact HB.out | apply below_alloc | apply pw_below_drewN | apply below_drew1 | refine below_set ?_ GE171.out) | exact HB.out)⟩⟩
        · rw [if_neg c7] at H
          have c7b0 : decide (a0_2 ≤ 4294967295) = false := decide_eq_false c7
          clear c7
          have H' := Aside0.mk H
          clear H
          have hcz13_0 : w3.cell? ⟨gb171, 0, none⟩ = some (.string a0_0) := (blk_cell BK171.out 0).trans rfl
          have hcz13_1 : w3.cell? ⟨gb171, 1, none⟩ = some (.int .i64 a0_1) := (blk_cell BK171.out 1).trans rfl
          have hcz13_2 : w3.cell? ⟨gb171, 2, none⟩ = some (.int .i64 a0_2) := (blk_cell BK171.out 2).trans rfl
          have hcz13_3 : w3.cell? ⟨gb171, 3, none⟩ = some (.float .f64 a0_3) := (blk_cell BK171.out 3).trans rfl
          have hcz13_4 : w3.cell? ⟨gb171, 4, none⟩ = some (.bool a0_4) := (blk_cell BK171.out 4).trans rfl
          have hcz13_5 : w3.cell? ⟨gb171, 5, none⟩ = some (.bool a0_5) := (blk_cell BK171.out 5).trans rfl
          have hfz13_0 := blk_frozen BK171.out 0
          have hfz13_1 := blk_frozen BK171.out 1
          have hfz13_2 := blk_frozen BK171.out 2
          have hfz13_3 := blk_frozen BK171.out 3
          have hfz13_4 := blk_frozen BK171.out 4
          have hfz13_5 := blk_frozen BK171.out 5
          go_wp2_with (first | ((with_reducible refine gate_callee (f := 64) rfl ?_); refine goesL_ (some 6) rfl rfl Try.func64 (by kernel_rfl) rfl #[.int .i64 a0_1] rfl (by (try simp only [List.map_toArray, List.map_cons, List.map_nil]); first | done | rfl | (simp only [List.length_drop, List.length_take]; rfl)) ?_; (with_reducible refine (unit_Secs.calls a0_1 t172 _ A4.out).mono ?_); rintro e w14 ⟨rfl, hb⟩; refine ⟨_, rfl, ?_⟩; have n0_ := Aside0.mk (blk_below (g := gb171) (o := .cells #[.string a0_0, .int .i64 a0_1, .int .i64 a0_2, .float .f64 a0_3, .bool a0_4, .bool a0_5] 44 (0, 0)) (by (with_reducible repeat (first | refine blk_drewN ?_ _ | refine blk_drew ?_ | refine blk_alloc ?_ _)); exact BK171.out) hb); have n1_ := Aside0.mk (below_step (by repeat (first | (with_reducible first | exact HB.out | apply below_alloc | apply pw_below_drewN | apply below_drew1 | refine below_set ?_ GE171.out) | exact HB.out)) hb); clear BK171; clear HB; have BK171 := n0_; have HB := n1_; clear n0_ n1_; (try clear hb); (try clear hb2); (try clear hk); (try clear hi); have hcz15_0 : w14.cell? ⟨gb171, 0, none⟩ = some (.string a0_0) := (blk_cell BK171.out 0).trans rfl; have hcz15_1 : w14.cell? ⟨gb171, 1, none⟩ = some (.int .i64 a0_1) := (blk_cell BK171.out 1).trans rfl; have hcz15_2 : w14.cell? ⟨gb171, 2, none⟩ = some (.int .i64 a0_2) := (blk_cell BK171.out 2).trans rfl; have hcz15_3 : w14.cell? ⟨gb171, 3, none⟩ = some (.float .f64 a0_3) := (blk_cell BK171.out 3).trans rfl; have hcz15_4 : w14.cell? ⟨gb171, 4, none⟩ = some (.bool a0_4) := (blk_cell BK171.out 4).trans rfl; have hcz15_5 : w14.cell? ⟨gb171, 5, none⟩ = some (.bool a0_5) := (blk_cell BK171.out 5).trans rfl; have hfz15_0 := blk_frozen BK171.out 0; have hfz15_1 := blk_frozen BK171.out 1; have hfz15_2 := blk_frozen BK171.out 2; have hfz15_3 := blk_frozen BK171.out 3; have hfz15_4 := blk_frozen BK171.out 4; have hfz15_5 := blk_frozen BK171.out 5))
          go_meet
          case rel => exact ⟨_, (false), (by first | rfl | (simp; done) | (simp [*]; done)), H', ⟨by first | omega | exact Nat.le_refl _⟩, ⟨by (with_reducible repeat (first | refine blk_drewN ?_ _ | refine blk_drew ?_ | refine blk_alloc ?_ _)); exact BK171.out⟩, ⟨by repeat (first | (with_reducible first | exact HB.out | apply below_alloc | apply pw_below_drewN | apply below_drew1 | refine below_set ?_ GE171.out) | exact HB.out)⟩⟩
      · rw [if_neg c6] at H
        have c6b0 : decide (0 ≤ a0_2) = false := decide_eq_false c6
        clear c6
        have H' := Aside0.mk H
        clear H
        have hcz16_0 : w3.cell? ⟨gb171, 0, none⟩ = some (.string a0_0) := (blk_cell BK171.out 0).trans rfl
        have hcz16_1 : w3.cell? ⟨gb171, 1, none⟩ = some (.int .i64 a0_1) := (blk_cell BK171.out 1).trans rfl
        have hcz16_2 : w3.cell? ⟨gb171, 2, none⟩ = some (.int .i64 a0_2) := (blk_cell BK171.out 2).trans rfl
        have hcz16_3 : w3.cell? ⟨gb171, 3, none⟩ = some (.float .f64 a0_3) := (blk_cell BK171.out 3).trans rfl
        have hcz16_4 : w3.cell? ⟨gb171, 4, none⟩ = some (.bool a0_4) := (blk_cell BK171.out 4).trans rfl
        have hcz16_5 : w3.cell? ⟨gb171, 5, none⟩ = some (.bool a0_5) := (blk_cell BK171.out 5).trans rfl
        have hfz16_0 := blk_frozen BK171.out 0
        have hfz16_1 := blk_frozen BK171.out 1
        have hfz16_2 := blk_frozen BK171.out 2
        have hfz16_3 := blk_frozen BK171.out 3
        have hfz16_4 := blk_frozen BK171.out 4
        have hfz16_5 := blk_frozen BK171.out 5
        go_wp2_with (first | ((with_reducible refine gate_callee (f := 64) rfl ?_); refine goesL_ (some 6) rfl rfl Try.func64 (by kernel_rfl) rfl #[.int .i64 a0_1] rfl (by (try simp only [List.map_toArray, List.map_cons, List.map_nil]); first | done | rfl | (simp only [List.length_drop, List.length_take]; rfl)) ?_; (with_reducible refine (unit_Secs.calls a0_1 t172 _ A4.out).mono ?_); rintro e w17 ⟨rfl, hb⟩; refine ⟨_, rfl, ?_⟩; have n0_ := Aside0.mk (blk_below (g := gb171) (o := .cells #[.string a0_0, .int .i64 a0_1, .int .i64 a0_2, .float .f64 a0_3, .bool a0_4, .bool a0_5] 44 (0, 0)) (by (with_reducible repeat (first | refine blk_drewN ?_ _ | refine blk_drew ?_ | refine blk_alloc ?_ _)); exact BK171.out) hb); have n1_ := Aside0.mk (below_step (by repeat (first | (with_reducible first | exact HB.out | apply below_alloc | apply pw_below_drewN | apply below_drew1 | refine below_set ?_ GE171.out) | exact HB.out)) hb); clear BK171; clear HB; have BK171 := n0_; have HB := n1_; clear n0_ n1_; (try clear hb); (try clear hb2); (try clear hk); (try clear hi); have hcz18_0 : w17.cell? ⟨gb171, 0, none⟩ = some (.string a0_0) := (blk_cell BK171.out 0).trans rfl; have hcz18_1 : w17.cell? ⟨gb171, 1, none⟩ = some (.int .i64 a0_1) := (blk_cell BK171.out 1).trans rfl; have hcz18_2 : w17.cell? ⟨gb171, 2, none⟩ = some (.int .i64 a0_2) := (blk_cell BK171.out 2).trans rfl; have hcz18_3 : w17.cell? ⟨gb171, 3, none⟩ = some (.float .f64 a0_3) := (blk_cell BK171.out 3).trans rfl; have hcz18_4 : w17.cell? ⟨gb171, 4, none⟩ = some (.bool a0_4) := (blk_cell BK171.out 4).trans rfl; have hcz18_5 : w17.cell? ⟨gb171, 5, none⟩ = some (.bool a0_5) := (blk_cell BK171.out 5).trans rfl; have hfz18_0 := blk_frozen BK171.out 0; have hfz18_1 := blk_frozen BK171.out 1; have hfz18_2 := blk_frozen BK171.out 2; have hfz18_3 := blk_frozen BK171.out 3; have hfz18_4 := blk_frozen BK171.out 4; have hfz18_5 := blk_frozen BK171.out 5))
        go_meet
        case rel => exact ⟨_, (false), (by first | rfl | (simp; done) | (simp [*]; done)), H', ⟨by first | omega | exact Nat.le_refl _⟩, ⟨by (with_reducible repeat (first | refine blk_drewN ?_ _ | refine blk_drew ?_ | refine blk_alloc ?_ _)); exact BK171.out⟩, ⟨by repeat (first | (with_reducible first | exact HB.out | apply below_alloc | apply pw_below_drewN | apply below_drew1 | refine below_set ?_ GE171.out) | exact HB.out)⟩⟩
    · rw [if_neg c5] at H
      have c5b0 : decide (0 < t172) = false := decide_eq_false c5
      clear c5
      (first | rw [c5b0] | (simp only [i64_w, i32_w]; rw [c5b0]) | skip)
      have H' := Aside0.mk H
      clear H
      have hcz19_0 : w3.cell? ⟨gb171, 0, none⟩ = some (.string a0_0) := (blk_cell BK171.out 0).trans rfl
      have hcz19_1 : w3.cell? ⟨gb171, 1, none⟩ = some (.int .i64 a0_1) := (blk_cell BK171.out 1).trans rfl
      have hcz19_2 : w3.cell? ⟨gb171, 2, none⟩ = some (.int .i64 a0_2) := (blk_cell BK171.out 2).trans rfl
      have hcz19_3 : w3.cell? ⟨gb171, 3, none⟩ = some (.float .f64 a0_3) := (blk_cell BK171.out 3).trans rfl
      have hcz19_4 : w3.cell? ⟨gb171, 4, none⟩ = some (.bool a0_4) := (blk_cell BK171.out 4).trans rfl
      have hcz19_5 : w3.cell? ⟨gb171, 5, none⟩ = some (.bool a0_5) := (blk_cell BK171.out 5).trans rfl
      have hfz19_0 := blk_frozen BK171.out 0
      have hfz19_1 := blk_frozen BK171.out 1
      have hfz19_2 := blk_frozen BK171.out 2
      have hfz19_3 := blk_frozen BK171.out 3
      have hfz19_4 := blk_frozen BK171.out 4
      have hfz19_5 := blk_frozen BK171.out 5
      go_wp2_with (first | ((with_reducible refine gate_callee (f := 64) rfl ?_); refine goesL_ (some 6) rfl rfl Try.func64 (by kernel_rfl) rfl #[.int .i64 a0_1] rfl (by (try simp only [List.map_toArray, List.map_cons, List.map_nil]); first | done | rfl | (simp only [List.length_drop, List.length_take]; rfl)) ?_; (with_reducible refine (unit_Secs.calls a0_1 t172 _ A4.out).mono ?_); rintro e w20 ⟨rfl, hb⟩; refine ⟨_, rfl, ?_⟩; have n0_ := Aside0.mk (blk_below (g := gb171) (o := .cells #[.string a0_0, .int .i64 a0_1, .int .i64 a0_2, .float .f64 a0_3, .bool a0_4, .bool a0_5] 44 (0, 0)) (by (with_reducible repeat (first | refine blk_drewN ?_ _ | refine blk_drew ?_ | refine blk_alloc ?_ _)); exact BK171.out) hb); have n1_ := Aside0.mk (below_step (by repeat (first | (with_reducible first | exact HB.out | apply below_alloc | apply pw_below_drewN | apply below_drew1 | refine below_set ?_ GE171.out) | exact HB.out)) hb); clear BK171; clear HB; have BK171 := n0_; have HB := n1_; clear n0_ n1_; (try clear hb); (try clear hb2); (try clear hk); (try clear hi)))
      go_meet
      case rel => exact ⟨_, (false), (by first | rfl | (simp; done) | (simp [*]; done)), H', ⟨by first | omega | exact Nat.le_refl _⟩, ⟨by (with_reducible repeat (first | refine blk_drewN ?_ _ | refine blk_drew ?_ | refine blk_alloc ?_ _)); exact BK171.out⟩, ⟨by repeat (first | (with_reducible first | exact HB.out | apply below_alloc | apply pw_below_drewN | apply below_drew1 | refine below_set ?_ GE171.out) | exact HB.out)⟩⟩
  case rest =>
    clear HC2
    try clear p2
    try clear c5
    try clear c5b0
    try clear c6
    try clear c6b0
    try clear c7
    try clear c7b0
    try clear hcz11_0
    try clear hcz11_1
    try clear hcz11_2
    try clear hcz11_3
    try clear hcz11_4
    try clear hcz11_5
    try clear hcz13_0
    try clear hcz13_1
    try clear hcz13_2
    try clear hcz13_3
    try clear hcz13_4
    try clear hcz13_5
    try clear hcz15_0
    try clear hcz15_1
    try clear hcz15_2
    try clear hcz15_3
    try clear hcz15_4
    try clear hcz15_5
    try clear hcz16_0
    try clear hcz16_1
    try clear hcz16_2
    try clear hcz16_3
    try clear hcz16_4
    try clear hcz16_5
    try clear hcz18_0
    try clear hcz18_1
    try clear hcz18_2
    try clear hcz18_3
    try clear hcz18_4
    try clear hcz18_5
    try clear hcz19_0
    try clear hcz19_1
    try clear hcz19_2
    try clear hcz19_3
    try clear hcz19_4
    try clear hcz19_5
    try clear hcz9_0
    try clear hcz9_1
    try clear hcz9_2
    try clear hcz9_3
    try clear hcz9_4
    try clear hcz9_5
    try clear hfz11_0
    try clear hfz11_1
    try clear hfz11_2
    try clear hfz11_3
    try clear hfz11_4
    try clear hfz11_5
    try clear hfz13_0
    try clear hfz13_1
    try clear hfz13_2
    try clear hfz13_3
    try clear hfz13_4
    try clear hfz13_5
    try clear hfz15_0
    try clear hfz15_1
    try clear hfz15_2
    try clear hfz15_3
    try clear hfz15_4
    try clear hfz15_5
    try clear hfz16_0
    try clear hfz16_1
    try clear hfz16_2
    try clear hfz16_3
    try clear hfz16_4
    try clear hfz16_5
    try clear hfz18_0
    try clear hfz18_1
    try clear hfz18_2
    try clear hfz18_3
    try clear hfz18_4
    try clear hfz18_5
    try clear hfz19_0
    try clear hfz19_1
    try clear hfz19_2
    try clear hfz19_3
    try clear hfz19_4
    try clear hfz19_5
    try clear hfz9_0
    try clear hfz9_1
    try clear hfz9_2
    try clear hfz9_3
    try clear hfz9_4
    try clear hfz9_5
    obtain ⟨kq, x3_1, rfl, HA, HJ1, BK171, HB⟩ := hcut
    cases kq with
    | zero => exact absurd HA.out (by simp [rule_Check.j0])
    | succ kj1 =>
      have H := HA.out
      clear HA
      simp only [rule_Check.j0] at H
      by_cases c21 : a0_5 = true
      · subst c21
        have H1 : (if a0_1 = 0 then (if a0_2 = 0 then ((ratio_Same.f a0_3 0).bind fun t174 => (if t174 = true then (if a0_0.toList = ([] : List UInt8) then (some 0) else ((desc_Name.f kj1 a0_0).bind fun t175 => (if t175 = true then (some 0) else (some 1)))) else (some 1))) else (some 1)) else (some 1)) = some r := by rw [if_pos rfl] at H; exact H
        clear H
        have H := H1
        clear H1
        by_cases c22 : a0_1 = 0
        · rw [if_pos c22] at H
          have c22b0 : (a0_1 == 0) = true := beq_iff_eq.mpr c22
          have c22b1 : (a0_1 != 0) = false := bne_eq_false_iff_eq.mpr c22
          clear c22
          by_cases c23 : a0_2 = 0
          · rw [if_pos c23] at H
            have c23b0 : (a0_2 == 0) = true := beq_iff_eq.mpr c23
            have c23b1 : (a0_2 != 0) = false := bne_eq_false_iff_eq.mpr c23
            clear c23
            replace H := Option.bind_eq_some_iff.mp H
            obtain ⟨t174, A240, H⟩ := H
            replace H : (if t174 = true then (if a0_0.toList = ([] : List UInt8) then (some 0) else ((desc_Name.f kj1 a0_0).bind fun t175 => (if t175 = true then (some 0) else (some 1)))) else (some 1)) = some r := H
            have A24 := Aside0.mk A240
            clear A240
            by_cases c25 : t174 = true
            · subst c25
              have H1 : (if a0_0.toList = ([] : List UInt8) then (some 0) else ((desc_Name.f kj1 a0_0).bind fun t175 => (if t175 = true then (some 0) else (some 1)))) = some r := by rw [if_pos rfl] at H; exact H
              clear H
              have H := H1
              clear H1
              by_cases c26 : a0_0.toList = ([] : List UInt8)
              · rw [if_pos c26] at H
                have c26b0 : (a0_0.toList == ([] : List UInt8)) = true := beq_iff_eq.mpr c26
                have c26b1 : (a0_0.toList != ([] : List UInt8)) = false := bne_eq_false_iff_eq.mpr c26
                clear c26
                obtain rfl := Option.some.inj H
                have hcz27_0 : wc.cell? ⟨gb171, 0, none⟩ = some (.string a0_0) := (blk_cell BK171.out 0).trans rfl
                have hcz27_1 : wc.cell? ⟨gb171, 1, none⟩ = some (.int .i64 a0_1) := (blk_cell BK171.out 1).trans rfl
                have hcz27_2 : wc.cell? ⟨gb171, 2, none⟩ = some (.int .i64 a0_2) := (blk_cell BK171.out 2).trans rfl
                have hcz27_3 : wc.cell? ⟨gb171, 3, none⟩ = some (.float .f64 a0_3) := (blk_cell BK171.out 3).trans rfl
                have hcz27_4 : wc.cell? ⟨gb171, 4, none⟩ = some (.bool a0_4) := (blk_cell BK171.out 4).trans rfl
                have hcz27_5 : wc.cell? ⟨gb171, 5, none⟩ = some (.bool true) := (blk_cell BK171.out 5).trans rfl
                have hfz27_0 := blk_frozen BK171.out 0
                have hfz27_1 := blk_frozen BK171.out 1
                have hfz27_2 := blk_frozen BK171.out 2
                have hfz27_3 := blk_frozen BK171.out 3
                have hfz27_4 := blk_frozen BK171.out 4
                have hfz27_5 := blk_frozen BK171.out 5
                go_wp2_with (first | (go_at_call 66; (with_reducible refine (ratio_Same.calls a0_3 0 true _ A24.out).mono ?_); rintro e w' ⟨rfl, ⟨nd, rfl⟩⟩))
                go_ret
                exact ⟨by first | rfl | (simp [errW_none, errW_some] <;> rfl) | (simp [*, errW_none, errW_some] <;> rfl), by repeat (first | (with_reducible first | exact HB.out | apply below_alloc | apply pw_below_drewN | apply below_drew1 | refine below_set ?_ GE171.out) | exact HB.out)⟩
              · rw [if_neg c26] at H
                have c26b0 : (a0_0.toList == ([] : List UInt8)) = false := beq_eq_false_iff_ne.mpr c26
                have c26b1 : (a0_0.toList != ([] : List UInt8)) = true := bne_iff_ne.mpr c26
                replace H := Option.bind_eq_some_iff.mp H
                obtain ⟨t175, A280, H⟩ := H
                replace H : (if t175 = true then (some 0) else (some 1)) = some r := H
                have A28 := Aside0.mk A280
                clear A280
                by_cases c29 : t175 = true
                · subst c29
                  have H1 : (some 0) = some r := by rw [if_pos rfl] at H; exact H
                  clear H
                  have H := H1
                  clear H1
                  obtain rfl := Option.some.inj H
                  have hcz30_0 : wc.cell? ⟨gb171, 0, none⟩ = some (.string a0_0) := (blk_cell BK171.out 0).trans rfl
                  have hcz30_1 : wc.cell? ⟨gb171, 1, none⟩ = some (.int .i64 a0_1) := (blk_cell BK171.out 1).trans rfl
                  have hcz30_2 : wc.cell? ⟨gb171, 2, none⟩ = some (.int .i64 a0_2) := (blk_cell BK171.out 2).trans rfl
                  have hcz30_3 : wc.cell? ⟨gb171, 3, none⟩ = some (.float .f64 a0_3) := (blk_cell BK171.out 3).trans rfl
                  have hcz30_4 : wc.cell? ⟨gb171, 4, none⟩ = some (.bool a0_4) := (blk_cell BK171.out 4).trans rfl
                  have hcz30_5 : wc.cell? ⟨gb171, 5, none⟩ = some (.bool true) := (blk_cell BK171.out 5).trans rfl
                  have hfz30_0 := blk_frozen BK171.out 0
                  have hfz30_1 := blk_frozen BK171.out 1
                  have hfz30_2 := blk_frozen BK171.out 2
                  have hfz30_3 := blk_frozen BK171.out 3
                  have hfz30_4 := blk_frozen BK171.out 4
                  have hfz30_5 := blk_frozen BK171.out 5
                  go_wp2_with (first | (go_at_call 66; (with_reducible refine (ratio_Same.calls a0_3 0 true _ A24.out).mono ?_); rintro e w' ⟨rfl, ⟨nd, rfl⟩⟩) | (go_at_call 35; (with_reducible refine (desc_Name.calls kj1 a0_0 true _ A28.out).mono ?_); rintro e w' ⟨rfl, ⟨nd, rfl⟩⟩))
                  go_ret
                  exact ⟨by first | rfl | (simp [errW_none, errW_some] <;> rfl) | (simp [*, errW_none, errW_some] <;> rfl), by repeat (first | (with_reducible first | exact HB.out | apply below_alloc | apply pw_below_drewN | apply below_drew1 | refine below_set ?_ GE171.out) | exact HB.out)⟩
                · replace c29 := Bool.eq_false_iff.mpr c29
                  subst c29
                  have H1 : (some 1) = some r := by rw [if_neg (show ¬ (false = true) by decide)] at H; exact H
                  clear H
                  have H := H1
                  clear H1
                  obtain rfl := Option.some.inj H
                  have hcz31_0 : wc.cell? ⟨gb171, 0, none⟩ = some (.string a0_0) := (blk_cell BK171.out 0).trans rfl
                  have hcz31_1 : wc.cell? ⟨gb171, 1, none⟩ = some (.int .i64 a0_1) := (blk_cell BK171.out 1).trans rfl
                  have hcz31_2 : wc.cell? ⟨gb171, 2, none⟩ = some (.int .i64 a0_2) := (blk_cell BK171.out 2).trans rfl
                  have hcz31_3 : wc.cell? ⟨gb171, 3, none⟩ = some (.float .f64 a0_3) := (blk_cell BK171.out 3).trans rfl
                  have hcz31_4 : wc.cell? ⟨gb171, 4, none⟩ = some (.bool a0_4) := (blk_cell BK171.out 4).trans rfl
                  have hcz31_5 : wc.cell? ⟨gb171, 5, none⟩ = some (.bool true) := (blk_cell BK171.out 5).trans rfl
                  have hfz31_0 := blk_frozen BK171.out 0
                  have hfz31_1 := blk_frozen BK171.out 1
                  have hfz31_2 := blk_frozen BK171.out 2
                  have hfz31_3 := blk_frozen BK171.out 3
                  have hfz31_4 := blk_frozen BK171.out 4
                  have hfz31_5 := blk_frozen BK171.out 5
                  go_wp2_with (first | (go_at_call 66; (with_reducible refine (ratio_Same.calls a0_3 0 true _ A24.out).mono ?_); rintro e w' ⟨rfl, ⟨nd, rfl⟩⟩) | (go_at_call 35; (with_reducible refine (desc_Name.calls kj1 a0_0 false _ A28.out).mono ?_); rintro e w' ⟨rfl, ⟨nd, rfl⟩⟩))
                  go_ret
                  exact ⟨by first | rfl | (simp [errW_none, errW_some] <;> rfl) | (simp [*, errW_none, errW_some] <;> rfl), by repeat (first | (with_reducible first | exact HB.out | apply below_alloc | apply pw_below_drewN | apply below_drew1 | refine below_set ?_ GE171.out) | exact HB.out)⟩
            · replace c25 := Bool.eq_false_iff.mpr c25
              subst c25
              have H1 : (some 1) = some r := by rw [if_neg (show ¬ (false = true) by decide)] at H; exact H
              clear H
              have H := H1
              clear H1
              obtain rfl := Option.some.inj H
              have hcz32_0 : wc.cell? ⟨gb171, 0, none⟩ = some (.string a0_0) := (blk_cell BK171.out 0).trans rfl
              have hcz32_1 : wc.cell? ⟨gb171, 1, none⟩ = some (.int .i64 a0_1) := (blk_cell BK171.out 1).trans rfl
              have hcz32_2 : wc.cell? ⟨gb171, 2, none⟩ = some (.int .i64 a0_2) := (blk_cell BK171.out 2).trans rfl
              have hcz32_3 : wc.cell? ⟨gb171, 3, none⟩ = some (.float .f64 a0_3) := (blk_cell BK171.out 3).trans rfl
              have hcz32_4 : wc.cell? ⟨gb171, 4, none⟩ = some (.bool a0_4) := (blk_cell BK171.out 4).trans rfl
              have hcz32_5 : wc.cell? ⟨gb171, 5, none⟩ = some (.bool true) := (blk_cell BK171.out 5).trans rfl
              have hfz32_0 := blk_frozen BK171.out 0
              have hfz32_1 := blk_frozen BK171.out 1
              have hfz32_2 := blk_frozen BK171.out 2
              have hfz32_3 := blk_frozen BK171.out 3
              have hfz32_4 := blk_frozen BK171.out 4
              have hfz32_5 := blk_frozen BK171.out 5
              go_wp2_with (first | (go_at_call 66; (with_reducible refine (ratio_Same.calls a0_3 0 false _ A24.out).mono ?_); rintro e w' ⟨rfl, ⟨nd, rfl⟩⟩))
              go_ret
              exact ⟨by first | rfl | (simp [errW_none, errW_some] <;> rfl) | (simp [*, errW_none, errW_some] <;> rfl), by repeat (first | (with_reducible first | exact HB.out | apply below_alloc | apply pw_below_drewN | apply below_drew1 | refine below_set ?_ GE171.out) | exact HB.out)⟩
          · rw [if_neg c23] at H
            have c23b0 : (a0_2 == 0) = false := beq_eq_false_iff_ne.mpr c23
            have c23b1 : (a0_2 != 0) = true := bne_iff_ne.mpr c23
            obtain rfl := Option.some.inj H
            have hcz33_0 : wc.cell? ⟨gb171, 0, none⟩ = some (.string a0_0) := (blk_cell BK171.out 0).trans rfl
            have hcz33_1 : wc.cell? ⟨gb171, 1, none⟩ = some (.int .i64 a0_1) := (blk_cell BK171.out 1).trans rfl
            have hcz33_2 : wc.cell? ⟨gb171, 2, none⟩ = some (.int .i64 a0_2) := (blk_cell BK171.out 2).trans rfl
            have hcz33_3 : wc.cell? ⟨gb171, 3, none⟩ = some (.float .f64 a0_3) := (blk_cell BK171.out 3).trans rfl
            have hcz33_4 : wc.cell? ⟨gb171, 4, none⟩ = some (.bool a0_4) := (blk_cell BK171.out 4).trans rfl
            have hcz33_5 : wc.cell? ⟨gb171, 5, none⟩ = some (.bool true) := (blk_cell BK171.out 5).trans rfl
            have hfz33_0 := blk_frozen BK171.out 0
            have hfz33_1 := blk_frozen BK171.out 1
            have hfz33_2 := blk_frozen BK171.out 2
            have hfz33_3 := blk_frozen BK171.out 3
            have hfz33_4 := blk_frozen BK171.out 4
            have hfz33_5 := blk_frozen BK171.out 5
            go_wp2
            go_ret
            exact ⟨by first | rfl | (simp [errW_none, errW_some] <;> rfl) | (simp [*, errW_none, errW_some] <;> rfl), by repeat (first | (with_reducible first | exact HB.out | apply below_alloc | apply pw_below_drewN | apply below_drew1 | refine below_set ?_ GE171.out) | exact HB.out)⟩
        · rw [if_neg c22] at H
          have c22b0 : (a0_1 == 0) = false := beq_eq_false_iff_ne.mpr c22
          have c22b1 : (a0_1 != 0) = true := bne_iff_ne.mpr c22
          obtain rfl := Option.some.inj H
          have hcz34_0 : wc.cell? ⟨gb171, 0, none⟩ = some (.string a0_0) := (blk_cell BK171.out 0).trans rfl
          have hcz34_1 : wc.cell? ⟨gb171, 1, none⟩ = some (.int .i64 a0_1) := (blk_cell BK171.out 1).trans rfl
          have hcz34_2 : wc.cell? ⟨gb171, 2, none⟩ = some (.int .i64 a0_2) := (blk_cell BK171.out 2).trans rfl
          have hcz34_3 : wc.cell? ⟨gb171, 3, none⟩ = some (.float .f64 a0_3) := (blk_cell BK171.out 3).trans rfl
          have hcz34_4 : wc.cell? ⟨gb171, 4, none⟩ = some (.bool a0_4) := (blk_cell BK171.out 4).trans rfl
          have hcz34_5 : wc.cell? ⟨gb171, 5, none⟩ = some (.bool true) := (blk_cell BK171.out 5).trans rfl
          have hfz34_0 := blk_frozen BK171.out 0
          have hfz34_1 := blk_frozen BK171.out 1
          have hfz34_2 := blk_frozen BK171.out 2
          have hfz34_3 := blk_frozen BK171.out 3
          have hfz34_4 := blk_frozen BK171.out 4
          have hfz34_5 := blk_frozen BK171.out 5
          go_wp2
          go_ret
          exact ⟨by first | rfl | (simp [errW_none, errW_some] <;> rfl) | (simp [*, errW_none, errW_some] <;> rfl), by repeat (first | (with_reducible first | exact HB.out | apply below_alloc | apply pw_below_drewN | apply below_drew1 | refine below_set ?_ GE171.out) | exact HB.out)⟩
      · replace c21 := Bool.eq_false_iff.mpr c21
        subst c21
        have H1 : (if x3_1 = true then (if a0_0.toList = ([] : List UInt8) then (some 0) else ((desc_Name.f kj1 a0_0).bind fun t176 => (if t176 = true then (some 0) else (some 1)))) else (some 1)) = some r := by rw [if_neg (show ¬ (false = true) by decide)] at H; exact H
        clear H
        have H := H1
        clear H1
        by_cases c35 : x3_1 = true
        · subst c35
          have H1 : (if a0_0.toList = ([] : List UInt8) then (some 0) else ((desc_Name.f kj1 a0_0).bind fun t176 => (if t176 = true then (some 0) else (some 1)))) = some r := by rw [if_pos rfl] at H; exact H
          clear H
          have H := H1
          clear H1
          by_cases c36 : a0_0.toList = ([] : List UInt8)
          · rw [if_pos c36] at H
            have c36b0 : (a0_0.toList == ([] : List UInt8)) = true := beq_iff_eq.mpr c36
            have c36b1 : (a0_0.toList != ([] : List UInt8)) = false := bne_eq_false_iff_eq.mpr c36
            clear c36
            obtain rfl := Option.some.inj H
            have hcz37_0 : wc.cell? ⟨gb171, 0, none⟩ = some (.string a0_0) := (blk_cell BK171.out 0).trans rfl
            have hcz37_1 : wc.cell? ⟨gb171, 1, none⟩ = some (.int .i64 a0_1) := (blk_cell BK171.out 1).trans rfl
            have hcz37_2 : wc.cell? ⟨gb171, 2, none⟩ = some (.int .i64 a0_2) := (blk_cell BK171.out 2).trans rfl
            have hcz37_3 : wc.cell? ⟨gb171, 3, none⟩ = some (.float .f64 a0_3) := (blk_cell BK171.out 3).trans rfl
            have hcz37_4 : wc.cell? ⟨gb171, 4, none⟩ = some (.bool a0_4) := (blk_cell BK171.out 4).trans rfl
            have hcz37_5 : wc.cell? ⟨gb171, 5, none⟩ = some (.bool false) := (blk_cell BK171.out 5).trans rfl
            have hfz37_0 := blk_frozen BK171.out 0
            have hfz37_1 := blk_frozen BK171.out 1
            have hfz37_2 := blk_frozen BK171.out 2
            have hfz37_3 := blk_frozen BK171.out 3
            have hfz37_4 := blk_frozen BK171.out 4
            have hfz37_5 := blk_frozen BK171.out 5
            go_wp2
            go_ret
            exact ⟨by first | rfl | (simp [errW_none, errW_some] <;> rfl) | (simp [*, errW_none, errW_some] <;> rfl), by repeat (first | (with_reducible first | exact HB.out | apply below_alloc | apply pw_below_drewN | apply below_drew1 | refine below_set ?_ GE171.out) | exact HB.out)⟩
          · rw [if_neg c36] at H
            have c36b0 : (a0_0.toList == ([] : List UInt8)) = false := beq_eq_false_iff_ne.mpr c36
            have c36b1 : (a0_0.toList != ([] : List UInt8)) = true := bne_iff_ne.mpr c36
            replace H := Option.bind_eq_some_iff.mp H
            obtain ⟨t176, A380, H⟩ := H
            replace H : (if t176 = true then (some 0) else (some 1)) = some r := H
            have A38 := Aside0.mk A380
            clear A380
            by_cases c39 : t176 = true
            · subst c39
              have H1 : (some 0) = some r := by rw [if_pos rfl] at H; exact H
              clear H
              have H := H1
              clear H1
              obtain rfl := Option.some.inj H
              have hcz40_0 : wc.cell? ⟨gb171, 0, none⟩ = some (.string a0_0) := (blk_cell BK171.out 0).trans rfl
              have hcz40_1 : wc.cell? ⟨gb171, 1, none⟩ = some (.int .i64 a0_1) := (blk_cell BK171.out 1).trans rfl
              have hcz40_2 : wc.cell? ⟨gb171, 2, none⟩ = some (.int .i64 a0_2) := (blk_cell BK171.out 2).trans rfl
              have hcz40_3 : wc.cell? ⟨gb171, 3, none⟩ = some (.float .f64 a0_3) := (blk_cell BK171.out 3).trans rfl
              have hcz40_4 : wc.cell? ⟨gb171, 4, none⟩ = some (.bool a0_4) := (blk_cell BK171.out 4).trans rfl
              have hcz40_5 : wc.cell? ⟨gb171, 5, none⟩ = some (.bool false) := (blk_cell BK171.out 5).trans rfl
              have hfz40_0 := blk_frozen BK171.out 0
              have hfz40_1 := blk_frozen BK171.out 1
              have hfz40_2 := blk_frozen BK171.out 2
              have hfz40_3 := blk_frozen BK171.out 3
              have hfz40_4 := blk_frozen BK171.out 4
              have hfz40_5 := blk_frozen BK171.out 5
              go_wp2_with (first | (go_at_call 35; (with_reducible refine (desc_Name.calls kj1 a0_0 true _ A38.out).mono ?_); rintro e w' ⟨rfl, ⟨nd, rfl⟩⟩))
              go_ret
              exact ⟨by first | rfl | (simp [errW_none, errW_some] <;> rfl) | (simp [*, errW_none, errW_some] <;> rfl), by repeat (first | (with_reducible first | exact HB.out | apply below_alloc | apply pw_below_drewN | apply below_drew1 | refine below_set ?_ GE171.out) | exact HB.out)⟩
            · replace c39 := Bool.eq_false_iff.mpr c39
              subst c39
              have H1 : (some 1) = some r := by rw [if_neg (show ¬ (false = true) by decide)] at H; exact H
              clear H
              have H := H1
              clear H1
              obtain rfl := Option.some.inj H
              have hcz41_0 : wc.cell? ⟨gb171, 0, none⟩ = some (.string a0_0) := (blk_cell BK171.out 0).trans rfl
              have hcz41_1 : wc.cell? ⟨gb171, 1, none⟩ = some (.int .i64 a0_1) := (blk_cell BK171.out 1).trans rfl
              have hcz41_2 : wc.cell? ⟨gb171, 2, none⟩ = some (.int .i64 a0_2) := (blk_cell BK171.out 2).trans rfl
              have hcz41_3 : wc.cell? ⟨gb171, 3, none⟩ = some (.float .f64 a0_3) := (blk_cell BK171.out 3).trans rfl
              have hcz41_4 : wc.cell? ⟨gb171, 4, none⟩ = some (.bool a0_4) := (blk_cell BK171.out 4).trans rfl
              have hcz41_5 : wc.cell? ⟨gb171, 5, none⟩ = some (.bool false) := (blk_cell BK171.out 5).trans rfl
              have hfz41_0 := blk_frozen BK171.out 0
              have hfz41_1 := blk_frozen BK171.out 1
              have hfz41_2 := blk_frozen BK171.out 2
              have hfz41_3 := blk_frozen BK171.out 3
              have hfz41_4 := blk_frozen BK171.out 4
              have hfz41_5 := blk_frozen BK171.out 5
              go_wp2_with (first | (go_at_call 35; (with_reducible refine (desc_Name.calls kj1 a0_0 false _ A38.out).mono ?_); rintro e w' ⟨rfl, ⟨nd, rfl⟩⟩))
              go_ret
              exact ⟨by first | rfl | (simp [errW_none, errW_some] <;> rfl) | (simp [*, errW_none, errW_some] <;> rfl), by repeat (first | (with_reducible first | exact HB.out | apply below_alloc | apply pw_below_drewN | apply below_drew1 | refine below_set ?_ GE171.out) | exact HB.out)⟩
        · replace c35 := Bool.eq_false_iff.mpr c35
          subst c35
          have H1 : (some 1) = some r := by rw [if_neg (show ¬ (false = true) by decide)] at H; exact H
          clear H
          have H := H1
          clear H1
          obtain rfl := Option.some.inj H
          have hcz42_0 : wc.cell? ⟨gb171, 0, none⟩ = some (.string a0_0) := (blk_cell BK171.out 0).trans rfl
          have hcz42_1 : wc.cell? ⟨gb171, 1, none⟩ = some (.int .i64 a0_1) := (blk_cell BK171.out 1).trans rfl
          have hcz42_2 : wc.cell? ⟨gb171, 2, none⟩ = some (.int .i64 a0_2) := (blk_cell BK171.out 2).trans rfl
          have hcz42_3 : wc.cell? ⟨gb171, 3, none⟩ = some (.float .f64 a0_3) := (blk_cell BK171.out 3).trans rfl
          have hcz42_4 : wc.cell? ⟨gb171, 4, none⟩ = some (.bool a0_4) := (blk_cell BK171.out 4).trans rfl
          have hcz42_5 : wc.cell? ⟨gb171, 5, none⟩ = some (.bool false) := (blk_cell BK171.out 5).trans rfl
          have hfz42_0 := blk_frozen BK171.out 0
          have hfz42_1 := blk_frozen BK171.out 1
          have hfz42_2 := blk_frozen BK171.out 2
          have hfz42_3 := blk_frozen BK171.out 3
          have hfz42_4 := blk_frozen BK171.out 4
          have hfz42_5 := blk_frozen BK171.out 5
          go_wp2
          go_ret
          exact ⟨by first | rfl | (simp [errW_none, errW_some] <;> rfl) | (simp [*, errW_none, errW_some] <;> rfl), by repeat (first | (with_reducible first | exact HB.out | apply below_alloc | apply pw_below_drewN | apply below_drew1 | refine below_set ?_ GE171.out) | exact HB.out)⟩
def rule_Same.f (a0_0 : ByteArray) (a0_1 : Int) (a0_2 : Int) (a0_3 : Nat) (a0_4 : Bool) (a0_5 : Bool) (a1_0 : ByteArray) (a1_1 : Int) (a1_2 : Int) (a1_3 : Nat) (a1_4 : Bool) (a1_5 : Bool) : Option (Bool) := (ratio_Same.f a0_3 a1_3).bind fun t => (if t = true then (some (a0_0.toList == a1_0.toList && (a0_1 == a1_1 && (a0_2 == a1_2 && (feq 0 0 && (a0_4 == a1_4 && (a0_5 == a1_5))))))) else (some false))
theorem rule_Same.eqr (d : Nat) (w : World) (x0 y0 : ByteArray) (x1 y1 x2 y2 : Int) (x3 y3 : Nat) (x4 y4 x5 y5 : Bool) :
    (Op.equalIn (d + 2) 44 (.agg #[.string x0, .int .i64 x1, .int .i64 x2, .float .f64 x3, .bool x4, .bool x5]) (.agg #[.string y0, .int .i64 y1, .int .i64 y2, .float .f64 y3, .bool y4, .bool y5])).run Try.prog w = .ok (x0.toList == y0.toList && (x1 == y1 && (x2 == y2 && (feq x3 y3 && (x4 == y4 && (x5 == y5)))))) w := by
  refine eqA_of Try.underlying44 (by kernel_rfl) ?_
  refine eqf_cons (by rfl) (by go_simp; try rfl) (by go_simp; try rfl) (by go_simp) ?_
  refine eqf_cons (by rfl) (by go_simp; try rfl) (by go_simp; try rfl) (by go_simp) ?_
  refine eqf_cons (by rfl) (by go_simp; try rfl) (by go_simp; try rfl) (by go_simp) ?_
  refine eqf_cons (by rfl) (by go_simp; try rfl) (by go_simp; try rfl) (run_equalIn_float _ d _ x3 y3 Try.underlying42) ?_
  refine eqf_cons (by rfl) (by go_simp; try rfl) (by go_simp; try rfl) (by go_simp) ?_
  exact eqf_last (by rfl) (by go_simp; try rfl) (by go_simp; try rfl) (by go_simp)
attribute [local go_sem high] rule_Same.eqr
set_option maxHeartbeats 8000000 in
set_option maxRecDepth 100000 in
theorem rule_Same.calls (a0_0 : ByteArray) (a0_1 : Int) (a0_2 : Int) (a0_3 : Nat) (a0_4 : Bool) (a0_5 : Bool) (a1_0 : ByteArray) (a1_1 : Int) (a1_2 : Int) (a1_3 : Nat) (a1_4 : Bool) (a1_5 : Bool) (r : Bool) (w : World) (h : rule_Same.f a0_0 a0_1 a0_2 a0_3 a0_4 a0_5 a1_0 a1_1 a1_2 a1_3 a1_4 a1_5 = some r) :
    Calls Try.prog 55 #[.agg #[.string a0_0, .int .i64 a0_1, .int .i64 a0_2, .float .f64 a0_3, .bool a0_4, .bool a0_5], .agg #[.string a1_0, .int .i64 a1_1, .int .i64 a1_2, .float .f64 a1_3, .bool a1_4, .bool a1_5]] w fun e w' => e = .returned (.bool r) ∧ Below w.heap.size w w' := by
  obtain ⟨t, ht, h⟩ := Option.bind_eq_some_iff.mp (show (ratio_Same.f a0_3 a1_3).bind _ = some r from h)
  have HT := Aside0.mk ht
  clear ht
  have HB := Aside0.mk (((Below.refl w.heap.size w).alloc (Nat.le_refl _) (.cells #[.string a0_0, .int .i64 a0_1, .int .i64 a0_2, .float .f64 a0_3, .bool a0_4, .bool a0_5] 44 (0, 0))).alloc (by simp) (.cells #[.string a1_0, .int .i64 a1_1, .int .i64 a1_2, .float .f64 a1_3, .bool a1_4, .bool a1_5] 44 (0, 0)))
  cases t with
  | false =>
    rw [if_neg (by decide)] at h
    obtain rfl := Option.some.inj h
    clear h
    go_enter Try.func55, Try.ntmps55
    go_wp2_with (go_at_call 66; (with_reducible refine (ratio_Same.calls a0_3 a1_3 false _ HT.out).mono ?_); rintro e w' ⟨rfl, ⟨nd, rfl⟩⟩)
    go_ret
    exact ⟨by first | rfl | simp, (((HB.out.trans (Drawn0.below (Drawn0.step (Drawn0.refl _) _) |>.mono (by simp; omega))).setCell (by simp) _).setCell (by simp) _)⟩
  | true =>
    rw [if_pos rfl] at h
    have HR := Aside0.mk (Option.some.inj h)
    clear h
    go_enter Try.func55, Try.ntmps55
    go_wp2_with (go_at_call 66; (with_reducible refine (ratio_Same.calls a0_3 a1_3 true _ HT.out).mono ?_); rintro e w' ⟨rfl, ⟨nd, rfl⟩⟩)
    go_ret
    exact ⟨by rw [← HR.out]; first | rfl | simp, (((HB.out.trans (Drawn0.below (Drawn0.step (Drawn0.refl _) _) |>.mono (by simp; omega))).setCell (by simp) _).setCell (by simp) _)⟩
end Go.Proofs.Ytipbigdpannlcaa.PTrieFits
