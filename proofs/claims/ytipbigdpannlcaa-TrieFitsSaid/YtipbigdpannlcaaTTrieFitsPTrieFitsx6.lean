/- What the law TrieFits uses, thinned: printed by shake2.py. -/
import Derived.Test.YtipbigdpannlcaaTTrieFitsPTrieFitsx0
import Derived.Test.YtipbigdpannlcaaTTrieFitsPTrieFitsx1
import Derived.Test.YtipbigdpannlcaaTTrieFitsPTrieFitsx5
namespace Go.Proofs.Ytipbigdpannlcaa.PTrieFits
open Go.RowKit Go.Proofs.YtipbigdpannlcaaW.PrintWords Go.Proofs.YtipbigdpannlcaaW.PrintLast Go.Proofs.YtipbigdpannlcaaW.PrintMore
attribute [local go_sem] max2_int min2_int max_two min_two max_three min_three max_four min_four
set_option linter.unusedVariables false
set_option linter.unusedSimpArgs false
def config_may.j0 : Nat → Bool → ByteArray → ByteArray → Bool → Int → Int → Bool → ByteArray → Int → Int → Nat → Bool → Bool → List Int → Option (Bool)
  | 0, _, _, _, _, _, _, _, _, _, _, _, _, _, _ => none
  | k + 1, x37, x178000, x178001, x178002, x178003, x178004, x178005, x178006, x178007, x178008, x178009, x178010, x178011, x178012 => if x37 = true then (some false) else (if x178005 = true then ((rule_Check.f k x178006 x178007 x178008 x178009 x178010 x178011).bind fun t179 => (some (t179 == 0))) else ((rule_Same.f x178006 x178007 x178008 x178009 x178010 x178011 (⟨#[]⟩ : ByteArray) 0 0 0 false false).bind fun t180 => (some t180)))
def config_may.f (k : Nat) (a0_0 : ByteArray) (a0_1 : ByteArray) (a0_2 : Bool) (a0_3 : Int) (a0_4 : Int) (a0_5 : Bool) (a0_6 : ByteArray) (a0_7 : Int) (a0_8 : Int) (a0_9 : Nat) (a0_10 : Bool) (a0_11 : Bool) (l0_12 : List Int) (a1 : Int) (a2 : Int) : Option (Bool) := if a0_3 = a1 then (if a0_4 = a2 then ((desc_Name.f k a0_0).bind fun t178 => (if t178 = true then (if (a0_1.size : Int) > 128 then (config_may.j0 k true a0_0 a0_1 a0_2 a0_3 a0_4 a0_5 a0_6 a0_7 a0_8 a0_9 a0_10 a0_11 l0_12) else (if a0_2 = true then (config_may.j0 k (a0_1.toList != ([] : List UInt8)) a0_0 a0_1 a0_2 a0_3 a0_4 a0_5 a0_6 a0_7 a0_8 a0_9 a0_10 a0_11 l0_12) else (config_may.j0 k false a0_0 a0_1 a0_2 a0_3 a0_4 a0_5 a0_6 a0_7 a0_8 a0_9 a0_10 a0_11 l0_12))) else (config_may.j0 k true a0_0 a0_1 a0_2 a0_3 a0_4 a0_5 a0_6 a0_7 a0_8 a0_9 a0_10 a0_11 l0_12))) else (config_may.j0 k true a0_0 a0_1 a0_2 a0_3 a0_4 a0_5 a0_6 a0_7 a0_8 a0_9 a0_10 a0_11 l0_12)) else (config_may.j0 k true a0_0 a0_1 a0_2 a0_3 a0_4 a0_5 a0_6 a0_7 a0_8 a0_9 a0_10 a0_11 l0_12)
set_option maxHeartbeats 8000000 in
set_option maxRecDepth 100000 in
theorem config_may.calls (k : Nat) (a0_0 : ByteArray) (a0_1 : ByteArray) (a0_2 : Bool) (a0_3 : Int) (a0_4 : Int) (a0_5 : Bool) (a0_6 : ByteArray) (a0_7 : Int) (a0_8 : Int) (a0_9 : Nat) (a0_10 : Bool) (a0_11 : Bool) (A0_12 : Option Addr) (c0_12 : Nat) (l0_12 : List Int) (a1 : Int) (a2 : Int) (r : Bool) (w : World) (hr0_12 : Kd.C (Kd.int .i64) w A0_12 l0_12.length l0_12) (hc0_12 : l0_12.length ≤ c0_12) (h : config_may.f k a0_0 a0_1 a0_2 a0_3 a0_4 a0_5 a0_6 a0_7 a0_8 a0_9 a0_10 a0_11 l0_12 a1 a2 = some r) :
    Calls Try.prog 43 #[.agg #[.string a0_0, .string a0_1, .bool a0_2, .int .i64 a0_3, .int .i64 a0_4, .bool a0_5, .string a0_6, .int .i64 a0_7, .int .i64 a0_8, .float .f64 a0_9, .bool a0_10, .bool a0_11, .slice A0_12 l0_12.length c0_12], .int .i64 a1, .int .i64 a2] w fun e w' => e = .returned (.bool r) ∧ Below w.heap.size w w' := by
  have hu46 := Try.underlying46
  have hu44 := Try.underlying44
  have HR0_12 := Aside0.mk hr0_12
  have HC0_12 := Aside0.mk hc0_12
  clear hr0_12 hc0_12
  have HB := Aside0.mk (Below.refl w.heap.size w)
  have H : (if a0_3 = a1 then (if a0_4 = a2 then ((desc_Name.f k a0_0).bind fun t178 => (if t178 = true then (if (a0_1.size : Int) > 128 then (config_may.j0 k true a0_0 a0_1 a0_2 a0_3 a0_4 a0_5 a0_6 a0_7 a0_8 a0_9 a0_10 a0_11 l0_12) else (if a0_2 = true then (config_may.j0 k (a0_1.toList != ([] : List UInt8)) a0_0 a0_1 a0_2 a0_3 a0_4 a0_5 a0_6 a0_7 a0_8 a0_9 a0_10 a0_11 l0_12) else (config_may.j0 k false a0_0 a0_1 a0_2 a0_3 a0_4 a0_5 a0_6 a0_7 a0_8 a0_9 a0_10 a0_11 l0_12))) else (config_may.j0 k true a0_0 a0_1 a0_2 a0_3 a0_4 a0_5 a0_6 a0_7 a0_8 a0_9 a0_10 a0_11 l0_12))) else (config_may.j0 k true a0_0 a0_1 a0_2 a0_3 a0_4 a0_5 a0_6 a0_7 a0_8 a0_9 a0_10 a0_11 l0_12)) else (config_may.j0 k true a0_0 a0_1 a0_2 a0_3 a0_4 a0_5 a0_6 a0_7 a0_8 a0_9 a0_10 a0_11 l0_12)) = some r := h
  clear h
  have HC4 := Aside0.mk H
  clear H
  go_enter Try.func43, Try.ntmps43
  go_upto_region 1 with (first | ((with_reducible refine gate_dst (N := 3) rfl ?_); (try (refine gate_guard (by rfl) ?_; dsimp only)); refine box_event ?hg (N := 3) ?hd (cs := #[.string a0_0, .string a0_1, .bool a0_2, .int .i64 a0_3, .int .i64 a0_4, .bool a0_5, .string a0_6, .int .i64 a0_7, .int .i64 a0_8, .float .f64 a0_9, .bool a0_10, .bool a0_11, .slice A0_12 l0_12.length c0_12]) (t := 46) ?hr ?_; (case hd => rfl); (case hg => rfl); (case hr => first | (go_simp; done) | (go_simp; rfl)); intro gb177 hg w5 hbox hb; have n0_ := Aside0.mk (below_step (by repeat (first | (with_reducible first | exact HB.out | apply below_alloc | apply pw_below_drewN | apply below_drew1) | exact HB.out)) hb); have n1_ := Aside0.mk (hbox); have n2_ := Aside0.mk ((by rw [hg]; exact (below_size (by repeat (first | (with_reducible first | exact HB.out | apply below_alloc | apply pw_below_drewN | apply below_drew1) | exact HB.out))) : w.heap.size ≤ gb177)); have n3_ := Aside0.mk ((by rw [hg]; exact (below_size (by repeat (first | (with_reducible first | exact HB.out | apply below_alloc | apply pw_below_drewN | apply below_drew1) | exact HB.out))) : w.heap.size ≤ gb177)); clear HB; have HB := n0_; have BK177 := n1_; have GW177 := n2_; have GE177 := n3_; clear n0_ n1_ n2_ n3_; clear hb hbox hg))
  (try simp only [Act.put, List.setIfInBounds_toArray, List.set_cons_zero, List.set_cons_succ])
  go_cut [37] (fun v37 wc => ∃ (kq : Nat) (x37_3 : Bool), v37 = .bool x37_3 ∧ Aside0 (config_may.j0 kq x37_3 a0_0 a0_1 a0_2 a0_3 a0_4 a0_5 a0_6 a0_7 a0_8 a0_9 a0_10 a0_11 l0_12 = some r) ∧ Aside0 (kq ≤ k) ∧ Aside0 (wc.heap[gb177]? = some (.cells #[.string a0_0, .string a0_1, .bool a0_2, .int .i64 a0_3, .int .i64 a0_4, .bool a0_5, .string a0_6, .int .i64 a0_7, .int .i64 a0_8, .float .f64 a0_9, .bool a0_10, .bool a0_11, (.slice A0_12 l0_12.length c0_12)] 46 (0, 0))) ∧ Aside0 (Below w.heap.size w wc))
  case first =>
    have H := HC4.out
    clear HC4
    by_cases c6 : a0_3 = a1
    · rw [if_pos c6] at H
      have c6b0 : (a0_3 == a1) = true := beq_iff_eq.mpr c6
      have c6b1 : (a0_3 != a1) = false := bne_eq_false_iff_eq.mpr c6
      clear c6
      (first | rw [c6b0] | (simp only [i64_w, i32_w]; rw [c6b0]) | skip)
      by_cases c7 : a0_4 = a2
      · rw [if_pos c7] at H
        have c7b0 : (a0_4 == a2) = true := beq_iff_eq.mpr c7
        have c7b1 : (a0_4 != a2) = false := bne_eq_false_iff_eq.mpr c7
        clear c7
        replace H := Option.bind_eq_some_iff.mp H
        obtain ⟨t178, A80, H⟩ := H
        replace H : (if t178 = true then (if (a0_1.size : Int) > 128 then (config_may.j0 k true a0_0 a0_1 a0_2 a0_3 a0_4 a0_5 a0_6 a0_7 a0_8 a0_9 a0_10 a0_11 l0_12) else (if a0_2 = true then (config_may.j0 k (a0_1.toList != ([] : List UInt8)) a0_0 a0_1 a0_2 a0_3 a0_4 a0_5 a0_6 a0_7 a0_8 a0_9 a0_10 a0_11 l0_12) else (config_may.j0 k false a0_0 a0_1 a0_2 a0_3 a0_4 a0_5 a0_6 a0_7 a0_8 a0_9 a0_10 a0_11 l0_12))) else (config_may.j0 k true a0_0 a0_1 a0_2 a0_3 a0_4 a0_5 a0_6 a0_7 a0_8 a0_9 a0_10 a0_11 l0_12)) = some r := H
        have A8 := Aside0.mk A80
        clear A80
        by_cases c9 : t178 = true
        · subst c9
          have H1 : (if (a0_1.size : Int) > 128 then (config_may.j0 k true a0_0 a0_1 a0_2 a0_3 a0_4 a0_5 a0_6 a0_7 a0_8 a0_9 a0_10 a0_11 l0_12) else (if a0_2 = true then (config_may.j0 k (a0_1.toList != ([] : List UInt8)) a0_0 a0_1 a0_2 a0_3 a0_4 a0_5 a0_6 a0_7 a0_8 a0_9 a0_10 a0_11 l0_12) else (config_may.j0 k false a0_0 a0_1 a0_2 a0_3 a0_4 a0_5 a0_6 a0_7 a0_8 a0_9 a0_10 a0_11 l0_12))) = some r := by rw [if_pos rfl] at H; exact H
          clear H
          have H := H1
          clear H1
          by_cases c10 : (a0_1.size : Int) > 128
          · rw [if_pos c10] at H
            have c10b0 : decide (128 < (a0_1.size : Int)) = true := decide_eq_true c10
            have c10b1 : decide (128 < a0_1.size) = true := decide_eq_true (by omega)
            clear c10
            have H' := Aside0.mk H
            clear H
            have hcz11_0 : w5.cell? ⟨gb177, 0, none⟩ = some (.string a0_0) := (blk_cell BK177.out 0).trans rfl
            have hcz11_1 : w5.cell? ⟨gb177, 1, none⟩ = some (.string a0_1) := (blk_cell BK177.out 1).trans rfl
            have hcz11_2 : w5.cell? ⟨gb177, 2, none⟩ = some (.bool a0_2) := (blk_cell BK177.out 2).trans rfl
            have hcz11_3 : w5.cell? ⟨gb177, 3, none⟩ = some (.int .i64 a0_3) := (blk_cell BK177.out 3).trans rfl
            have hcz11_4 : w5.cell? ⟨gb177, 4, none⟩ = some (.int .i64 a0_4) := (blk_cell BK177.out 4).trans rfl
            have hcz11_5 : w5.cell? ⟨gb177, 5, none⟩ = some (.bool a0_5) := (blk_cell BK177.out 5).trans rfl
            have hcz11_6 : w5.cell? ⟨gb177, 6, none⟩ = some (.string a0_6) := (blk_cell BK177.out 6).trans rfl
            have hcz11_7 : w5.cell? ⟨gb177, 7, none⟩ = some (.int .i64 a0_7) := (blk_cell BK177.out 7).trans rfl
            have hcz11_8 : w5.cell? ⟨gb177, 8, none⟩ = some (.int .i64 a0_8) := (blk_cell BK177.out 8).trans rfl
            have hcz11_9 : w5.cell? ⟨gb177, 9, none⟩ = some (.float .f64 a0_9) := (blk_cell BK177.out 9).trans rfl
            have hcz11_10 : w5.cell? ⟨gb177, 10, none⟩ = some (.bool a0_10) := (blk_cell BK177.out 10).trans rfl
            have hcz11_11 : w5.cell? ⟨gb177, 11, none⟩ = some (.bool a0_11) := (blk_cell BK177.out 11).trans rfl
            have hcz11_12 : w5.cell? ⟨gb177, 12, none⟩ = some (.slice A0_12 l0_12.length c0_12) := (blk_cell BK177.out 12).trans rfl
            have hfz11_0 := blk_frozen BK177.out 0
            have hfz11_1 := blk_frozen BK177.out 1
            have hfz11_2 := blk_frozen BK177.out 2
            have hfz11_3 := blk_frozen BK177.out 3
            have hfz11_4 := blk_frozen BK177.out 4
            have hfz11_5 := blk_frozen BK177.out 5
            have hfz11_6 := blk_frozen BK177.out 6
            have hfz11_7 := blk_frozen BK177.out 7
            have hfz11_8 := blk_frozen BK177.out 8
            have hfz11_9 := blk_frozen BK177.out 9
            have hfz11_10 := blk_frozen BK177.out 10
            have hfz11_11 := blk_frozen BK177.out 11
            have hfz11_12 := blk_frozen BK177.out 12
            go_wp2_with (first | (go_at_call 35; (with_reducible refine (desc_Name.calls k a0_0 true _ A8.out).mono ?_); rintro e w' ⟨rfl, ⟨nd, rfl⟩⟩))
            go_meet
            case rel => exact ⟨_, (true), (by first | rfl | (simp; done) | (simp [*]; done)), H', ⟨by first | omega | exact Nat.le_refl _⟩, ⟨by (with_reducible repeat (first | refine blk_drewN ?_ _ | refine blk_drew ?_ | refine blk_alloc ?_ _)); exact BK177.out⟩, ⟨by repeat (first | (with_reducible first | exact HB.out | apply below_alloc | apply pw_below_drewN | apply below_drew1 | refine below_set ?_ GE177.out) | exact HB.out)⟩⟩
          · rw [if_neg c10] at H
            have c10b0 : decide (128 < (a0_1.size : Int)) = false := decide_eq_false c10
            have c10b1 : decide (128 < a0_1.size) = false := decide_eq_false (by omega)
            clear c10
            by_cases c12 : a0_2 = true
            · subst c12
              have H1 : (config_may.j0 k (a0_1.toList != ([] : List UInt8)) a0_0 a0_1 true a0_3 a0_4 a0_5 a0_6 a0_7 a0_8 a0_9 a0_10 a0_11 l0_12) = some r := by rw [if_pos rfl] at H; exact H
              clear H
              have H := H1
              clear H1
              have H' := Aside0.mk H
              clear H
              have hcz13_0 : w5.cell? ⟨gb177, 0, none⟩ = some (.string a0_0) := (blk_cell BK177.out 0).trans rfl
              have hcz13_1 : w5.cell? ⟨gb177, 1, none⟩ = some (.string a0_1) := (blk_cell BK177.out 1).trans rfl
              have hcz13_2 : w5.cell? ⟨gb177, 2, none⟩ = some (.bool true) := (blk_cell BK177.out 2).trans rfl
              have hcz13_3 : w5.cell? ⟨gb177, 3, none⟩ = some (.int .i64 a0_3) := (blk_cell BK177.out 3).trans rfl
              have hcz13_4 : w5.cell? ⟨gb177, 4, none⟩ = some (.int .i64 a0_4) := (blk_cell BK177.out 4).trans rfl
              have hcz13_5 : w5.cell? ⟨gb177, 5, none⟩ = some (.bool a0_5) := (blk_cell BK177.out 5).trans rfl
              have hcz13_6 : w5.cell? ⟨gb177, 6, none⟩ = some (.string a0_6) := (blk_cell BK177.out 6).trans rfl
              have hcz13_7 : w5.cell? ⟨gb177, 7, none⟩ = some (.int .i64 a0_7) := (blk_cell BK177.out 7).trans rfl
              have hcz13_8 : w5.cell? ⟨gb177, 8, none⟩ = some (.int .i64 a0_8) := (blk_cell BK177.out 8).trans rfl
              have hcz13_9 : w5.cell? ⟨gb177, 9, none⟩ = some (.float .f64 a0_9) := (blk_cell BK177.out 9).trans rfl
              have hcz13_10 : w5.cell? ⟨gb177, 10, none⟩ = some (.bool a0_10) := (blk_cell BK177.out 10).trans rfl
              have hcz13_11 : w5.cell? ⟨gb177, 11, none⟩ = some (.bool a0_11) := (blk_cell BK177.out 11).trans rfl
              have hcz13_12 : w5.cell? ⟨gb177, 12, none⟩ = some (.slice A0_12 l0_12.length c0_12) := (blk_cell BK177.out 12).trans rfl
              have hfz13_0 := blk_frozen BK177.out 0
              have hfz13_1 := blk_frozen BK177.out 1
              have hfz13_2 := blk_frozen BK177.out 2
              have hfz13_3 := blk_frozen BK177.out 3
              have hfz13_4 := blk_frozen BK177.out 4
              have hfz13_5 := blk_frozen BK177.out 5
              have hfz13_6 := blk_frozen BK177.out 6
              have hfz13_7 := blk_frozen BK177.out 7
              have hfz13_8 := blk_frozen BK177.out 8
              have hfz13_9 := blk_frozen BK177.out 9
              have hfz13_10 := blk_frozen BK177.out 10
              have hfz13_11 := blk_frozen BK177.out 11
              have hfz13_12 := blk_frozen BK177.out 12
              go_wp2_with (first | (go_at_call 35; (with_reducible refine (desc_Name.calls k a0_0 true _ A8.out).mono ?_); rintro e w' ⟨rfl, ⟨nd, rfl⟩⟩))
              go_meet
              case rel => exact ⟨_, ((a0_1.toList != ([] : List UInt8))), (by first | rfl | (simp; done) | (simp [*]; done) | (cases h_ : a0_1.toList <;> first | rfl | (simp; done))), H', ⟨by first | omega | exact Nat.le_refl _⟩, ⟨by (with_reducible repeat (first | refine blk_drewN ?_ _ | refine blk_drew ?_ | refine blk_alloc ?_ _)); exact BK177.out⟩, ⟨by repeat (first | (with_reducible first | exact HB.out | apply below_alloc | apply pw_below_drewN | apply below_drew1 | refine below_set ?_ GE177.out) | exact HB.out)⟩⟩
            · replace c12 := Bool.eq_false_iff.mpr c12
              subst c12
              have H1 : (config_may.j0 k false a0_0 a0_1 false a0_3 a0_4 a0_5 a0_6 a0_7 a0_8 a0_9 a0_10 a0_11 l0_12) = some r := by rw [if_neg (show ¬ (false = true) by decide)] at H; exact H
              clear H
              have H := H1
              clear H1
              have H' := Aside0.mk H
              clear H
              have hcz14_0 : w5.cell? ⟨gb177, 0, none⟩ = some (.string a0_0) := (blk_cell BK177.out 0).trans rfl
              have hcz14_1 : w5.cell? ⟨gb177, 1, none⟩ = some (.string a0_1) := (blk_cell BK177.out 1).trans rfl
              have hcz14_2 : w5.cell? ⟨gb177, 2, none⟩ = some (.bool false) := (blk_cell BK177.out 2).trans rfl
              have hcz14_3 : w5.cell? ⟨gb177, 3, none⟩ = some (.int .i64 a0_3) := (blk_cell BK177.out 3).trans rfl
              have hcz14_4 : w5.cell? ⟨gb177, 4, none⟩ = some (.int .i64 a0_4) := (blk_cell BK177.out 4).trans rfl
              have hcz14_5 : w5.cell? ⟨gb177, 5, none⟩ = some (.bool a0_5) := (blk_cell BK177.out 5).trans rfl
              have hcz14_6 : w5.cell? ⟨gb177, 6, none⟩ = some (.string a0_6) := (blk_cell BK177.out 6).trans rfl
              have hcz14_7 : w5.cell? ⟨gb177, 7, none⟩ = some (.int .i64 a0_7) := (blk_cell BK177.out 7).trans rfl
              have hcz14_8 : w5.cell? ⟨gb177, 8, none⟩ = some (.int .i64 a0_8) := (blk_cell BK177.out 8).trans rfl
              have hcz14_9 : w5.cell? ⟨gb177, 9, none⟩ = some (.float .f64 a0_9) := (blk_cell BK177.out 9).trans rfl
              have hcz14_10 : w5.cell? ⟨gb177, 10, none⟩ = some (.bool a0_10) := (blk_cell BK177.out 10).trans rfl
              have hcz14_11 : w5.cell? ⟨gb177, 11, none⟩ = some (.bool a0_11) := (blk_cell BK177.out 11).trans rfl
              have hcz14_12 : w5.cell? ⟨gb177, 12, none⟩ = some (.slice A0_12 l0_12.length c0_12) := (blk_cell BK177.out 12).trans rfl
              have hfz14_0 := blk_frozen BK177.out 0
              have hfz14_1 := blk_frozen BK177.out 1
              have hfz14_2 := blk_frozen BK177.out 2
              have hfz14_3 := blk_frozen BK177.out 3
              have hfz14_4 := blk_frozen BK177.out 4
              have hfz14_5 := blk_frozen BK177.out 5
              have hfz14_6 := blk_frozen BK177.out 6
              have hfz14_7 := blk_frozen BK177.out 7
              have hfz14_8 := blk_frozen BK177.out 8
              have hfz14_9 := blk_frozen BK177.out 9
              have hfz14_10 := blk_frozen BK177.out 10
              have hfz14_11 := blk_frozen BK177.out 11
              have hfz14_12 := blk_frozen BK177.out 12
              go_wp2_with (first | (go_at_call 35; (with_reducible refine (desc_Name.calls k a0_0 true _ A8.out).mono ?_); rintro e w' ⟨rfl, ⟨nd, rfl⟩⟩))
              go_meet
              case rel => exact ⟨_, (false), (by first | rfl | (simp; done) | (simp [*]; done)), H', ⟨by first | omega | exact Nat.le_refl _⟩, ⟨by (with_reducible repeat (first | refine blk_drewN ?_ _ | refine blk_drew ?_ | refine blk_alloc ?_ _)); exact BK177.out⟩, ⟨by repeat (first | (with_reducible first | exact HB.out | apply below_alloc | apply pw_below_drewN | apply below_drew1 | refine below_set ?_ GE177.out) | exact HB.out)⟩⟩
        · replace c9 := Bool.eq_false_iff.mpr c9
          subst c9
          have H1 : (config_may.j0 k true a0_0 a0_1 a0_2 a0_3 a0_4 a0_5 a0_6 a0_7 a0_8 a0_9 a0_10 a0_11 l0_12) = some r := by rw [if_neg (show ¬ (false = true) by decide)] at H; exact H
          clear H
          have H := H1
          clear H1
          have H' := Aside0.mk H
          clear H
          have hcz15_0 : w5.cell? ⟨gb177, 0, none⟩ = some (.string a0_0) := (blk_cell BK177.out 0).trans rfl
          have hcz15_1 : w5.cell? ⟨gb177, 1, none⟩ = some (.string a0_1) := (blk_cell BK177.out 1).trans rfl
          have hcz15_2 : w5.cell? ⟨gb177, 2, none⟩ = some (.bool a0_2) := (blk_cell BK177.out 2).trans rfl
          have hcz15_3 : w5.cell? ⟨gb177, 3, none⟩ = some (.int .i64 a0_3) := (blk_cell BK177.out 3).trans rfl
          have hcz15_4 : w5.cell? ⟨gb177, 4, none⟩ = some (.int .i64 a0_4) := (blk_cell BK177.out 4).trans rfl
          have hcz15_5 : w5.cell? ⟨gb177, 5, none⟩ = some (.bool a0_5) := (blk_cell BK177.out 5).trans rfl
          have hcz15_6 : w5.cell? ⟨gb177, 6, none⟩ = some (.string a0_6) := (blk_cell BK177.out 6).trans rfl
          have hcz15_7 : w5.cell? ⟨gb177, 7, none⟩ = some (.int .i64 a0_7) := (blk_cell BK177.out 7).trans rfl
          have hcz15_8 : w5.cell? ⟨gb177, 8, none⟩ = some (.int .i64 a0_8) := (blk_cell BK177.out 8).trans rfl
          have hcz15_9 : w5.cell? ⟨gb177, 9, none⟩ = some (.float .f64 a0_9) := (blk_cell BK177.out 9).trans rfl
          have hcz15_10 : w5.cell? ⟨gb177, 10, none⟩ = some (.bool a0_10) := (blk_cell BK177.out 10).trans rfl
          have hcz15_11 : w5.cell? ⟨gb177, 11, none⟩ = some (.bool a0_11) := (blk_cell BK177.out 11).trans rfl
          have hcz15_12 : w5.cell? ⟨gb177, 12, none⟩ = some (.slice A0_12 l0_12.length c0_12) := (blk_cell BK177.out 12).trans rfl
          have hfz15_0 := blk_frozen BK177.out 0
          have hfz15_1 := blk_frozen BK177.out 1
          have hfz15_2 := blk_frozen BK177.out 2
          have hfz15_3 := blk_frozen BK177.out 3
          have hfz15_4 := blk_frozen BK177.out 4
          have hfz15_5 := blk_frozen BK177.out 5
          have hfz15_6 := blk_frozen BK177.out 6
          have hfz15_7 := blk_frozen BK177.out 7
          have hfz15_8 := blk_frozen BK177.out 8
          have hfz15_9 := blk_frozen BK177.out 9
          have hfz15_10 := blk_frozen BK177.out 10
          have hfz15_11 := blk_frozen BK177.out 11
          have hfz15_12 := blk_frozen BK177.out 12
          go_wp2_with (first | (go_at_call 35; (with_reducible refine (desc_Name.calls k a0_0 false _ A8.out).mono ?_); rintro e w' ⟨rfl, ⟨nd, rfl⟩⟩))
          go_meet
          case rel => exact ⟨_, (true), (by first | rfl | (simp; done) | (simp [*]; done)), H', ⟨by first | omega | exact Nat.le_refl _⟩, ⟨by (with_reducible repeat (first | refine blk_drewN ?_ _ | refine blk_drew ?_ | refine blk_alloc ?_ _)); exact BK177.out⟩, ⟨by repeat (first | (with_reducible first | exact HB.out | apply below_alloc | apply pw_below_drewN | apply below_drew1 | refine below_set ?_ GE177.out) | exact HB.out)⟩⟩
      · rw [if_neg c7] at H
        have c7b0 : (a0_4 == a2) = false := beq_eq_false_iff_ne.mpr c7
        have c7b1 : (a0_4 != a2) = true := bne_iff_ne.mpr c7
        have H' := Aside0.mk H
        clear H
        have hcz16_0 : w5.cell? ⟨gb177, 0, none⟩ = some (.string a0_0) := (blk_cell BK177.out 0).trans rfl
        have hcz16_1 : w5.cell? ⟨gb177, 1, none⟩ = some (.string a0_1) := (blk_cell BK177.out 1).trans rfl
        have hcz16_2 : w5.cell? ⟨gb177, 2, none⟩ = some (.bool a0_2) := (blk_cell BK177.out 2).trans rfl
        have hcz16_3 : w5.cell? ⟨gb177, 3, none⟩ = some (.int .i64 a0_3) := (blk_cell BK177.out 3).trans rfl
        have hcz16_4 : w5.cell? ⟨gb177, 4, none⟩ = some (.int .i64 a0_4) := (blk_cell BK177.out 4).trans rfl
        have hcz16_5 : w5.cell? ⟨gb177, 5, none⟩ = some (.bool a0_5) := (blk_cell BK177.out 5).trans rfl
        have hcz16_6 : w5.cell? ⟨gb177, 6, none⟩ = some (.string a0_6) := (blk_cell BK177.out 6).trans rfl
        have hcz16_7 : w5.cell? ⟨gb177, 7, none⟩ = some (.int .i64 a0_7) := (blk_cell BK177.out 7).trans rfl
        have hcz16_8 : w5.cell? ⟨gb177, 8, none⟩ = some (.int .i64 a0_8) := (blk_cell BK177.out 8).trans rfl
        have hcz16_9 : w5.cell? ⟨gb177, 9, none⟩ = some (.float .f64 a0_9) := (blk_cell BK177.out 9).trans rfl
        have hcz16_10 : w5.cell? ⟨gb177, 10, none⟩ = some (.bool a0_10) := (blk_cell BK177.out 10).trans rfl
        have hcz16_11 : w5.cell? ⟨gb177, 11, none⟩ = some (.bool a0_11) := (blk_cell BK177.out 11).trans rfl
        have hcz16_12 : w5.cell? ⟨gb177, 12, none⟩ = some (.slice A0_12 l0_12.length c0_12) := (blk_cell BK177.out 12).trans rfl
        have hfz16_0 := blk_frozen BK177.out 0
        have hfz16_1 := blk_frozen BK177.out 1
        have hfz16_2 := blk_frozen BK177.out 2
        have hfz16_3 := blk_frozen BK177.out 3
        have hfz16_4 := blk_frozen BK177.out 4
        have hfz16_5 := blk_frozen BK177.out 5
        have hfz16_6 := blk_frozen BK177.out 6
        have hfz16_7 := blk_frozen BK177.out 7
        have hfz16_8 := blk_frozen BK177.out 8
        have hfz16_9 := blk_frozen BK177.out 9
        have hfz16_10 := blk_frozen BK177.out 10
        have hfz16_11 := blk_frozen BK177.out 11
        have hfz16_12 := blk_frozen BK177.out 12
        go_wp2
        go_meet
        case rel => exact ⟨_, (true), (by first | rfl | (simp; done) | (simp [*]; done)), H', ⟨by first | omega | exact Nat.le_refl _⟩, ⟨by (with_reducible repeat (first | refine blk_drewN ?_ _ | refine blk_drew ?_ | refine blk_alloc ?_ _)); exact BK177.out⟩, ⟨by repeat (first | (with_reducible first | exact HB.out | apply below_alloc | apply pw_below_drewN | apply below_drew1 | refine below_set ?_ GE177.out) | exact HB.out)⟩⟩
    · rw [if_neg c6] at H
      have c6b0 : (a0_3 == a1) = false := beq_eq_false_iff_ne.mpr c6
      have c6b1 : (a0_3 != a1) = true := bne_iff_ne.mpr c6
      (first | rw [c6b0] | (simp only [i64_w, i32_w]; rw [c6b0]) | skip)
      have H' := Aside0.mk H
      clear H
      have hcz17_0 : w5.cell? ⟨gb177, 0, none⟩ = some (.string a0_0) := (blk_cell BK177.out 0).trans rfl
      have hcz17_1 : w5.cell? ⟨gb177, 1, none⟩ = some (.string a0_1) := (blk_cell BK177.out 1).trans rfl
      have hcz17_2 : w5.cell? ⟨gb177, 2, none⟩ = some (.bool a0_2) := (blk_cell BK177.out 2).trans rfl
      have hcz17_3 : w5.cell? ⟨gb177, 3, none⟩ = some (.int .i64 a0_3) := (blk_cell BK177.out 3).trans rfl
      have hcz17_4 : w5.cell? ⟨gb177, 4, none⟩ = some (.int .i64 a0_4) := (blk_cell BK177.out 4).trans rfl
      have hcz17_5 : w5.cell? ⟨gb177, 5, none⟩ = some (.bool a0_5) := (blk_cell BK177.out 5).trans rfl
      have hcz17_6 : w5.cell? ⟨gb177, 6, none⟩ = some (.string a0_6) := (blk_cell BK177.out 6).trans rfl
      have hcz17_7 : w5.cell? ⟨gb177, 7, none⟩ = some (.int .i64 a0_7) := (blk_cell BK177.out 7).trans rfl
      have hcz17_8 : w5.cell? ⟨gb177, 8, none⟩ = some (.int .i64 a0_8) := (blk_cell BK177.out 8).trans rfl
      have hcz17_9 : w5.cell? ⟨gb177, 9, none⟩ = some (.float .f64 a0_9) := (blk_cell BK177.out 9).trans rfl
      have hcz17_10 : w5.cell? ⟨gb177, 10, none⟩ = some (.bool a0_10) := (blk_cell BK177.out 10).trans rfl
      have hcz17_11 : w5.cell? ⟨gb177, 11, none⟩ = some (.bool a0_11) := (blk_cell BK177.out 11).trans rfl
      have hcz17_12 : w5.cell? ⟨gb177, 12, none⟩ = some (.slice A0_12 l0_12.length c0_12) := (blk_cell BK177.out 12).trans rfl
      have hfz17_0 := blk_frozen BK177.out 0
      have hfz17_1 := blk_frozen BK177.out 1
      have hfz17_2 := blk_frozen BK177.out 2
      have hfz17_3 := blk_frozen BK177.out 3
      have hfz17_4 := blk_frozen BK177.out 4
      have hfz17_5 := blk_frozen BK177.out 5
      have hfz17_6 := blk_frozen BK177.out 6
      have hfz17_7 := blk_frozen BK177.out 7
      have hfz17_8 := blk_frozen BK177.out 8
      have hfz17_9 := blk_frozen BK177.out 9
      have hfz17_10 := blk_frozen BK177.out 10
      have hfz17_11 := blk_frozen BK177.out 11
      have hfz17_12 := blk_frozen BK177.out 12
      go_wp2
      go_meet
      case rel => exact ⟨_, (true), (by first | rfl | (simp; done) | (simp [*]; done)), H', ⟨by first | omega | exact Nat.le_refl _⟩, ⟨by (with_reducible repeat (first | refine blk_drewN ?_ _ | refine blk_drew ?_ | refine blk_alloc ?_ _)); exact BK177.out⟩, ⟨by repeat (first | (with_reducible first | exact HB.out | apply below_alloc | apply pw_below_drewN | apply below_drew1 | refine below_set ?_ GE177.out) | exact HB.out)⟩⟩
  case rest =>
    clear HC4
    try clear c1
    try clear p2
    try clear c4
    try clear c6
    try clear c6b0
    try clear c6b1
    try clear c7
    try clear c7b0
    try clear c7b1
    try clear c9
    try clear c10
    try clear c10b0
    try clear c10b1
    try clear c12
    try clear hcz11_0
    try clear hcz11_1
    try clear hcz11_10
    try clear hcz11_11
    try clear hcz11_12
    try clear hcz11_2
    try clear hcz11_3
    try clear hcz11_4
    try clear hcz11_5
    try clear hcz11_6
    try clear hcz11_7
    try clear hcz11_8
    try clear hcz11_9
    try clear hcz13_0
    try clear hcz13_1
    try clear hcz13_10
    try clear hcz13_11
    try clear hcz13_12
    try clear hcz13_2
    try clear hcz13_3
    try clear hcz13_4
    try clear hcz13_5
    try clear hcz13_6
    try clear hcz13_7
    try clear hcz13_8
    try clear hcz13_9
    try clear hcz14_0
    try clear hcz14_1
    try clear hcz14_10
    try clear hcz14_11
    try clear hcz14_12
    try clear hcz14_2
    try clear hcz14_3
    try clear hcz14_4
    try clear hcz14_5
    try clear hcz14_6
    try clear hcz14_7
    try clear hcz14_8
    try clear hcz14_9
    try clear hcz15_0
    try clear hcz15_1
    try clear hcz15_10
    try clear hcz15_11
    try clear hcz15_12
    try clear hcz15_2
    try clear hcz15_3
    try clear hcz15_4
    try clear hcz15_5
    try clear hcz15_6
    try clear hcz15_7
    try clear hcz15_8
    try clear hcz15_9
    try clear hcz16_0
    try clear hcz16_1
    try clear hcz16_10
    try clear hcz16_11
    try clear hcz16_12
    try clear hcz16_2
    try clear hcz16_3
    try clear hcz16_4
    try clear hcz16_5
    try clear hcz16_6
    try clear hcz16_7
    try clear hcz16_8
    try clear hcz16_9
    try clear hcz17_0
    try clear hcz17_1
    try clear hcz17_10
    try clear hcz17_11
    try clear hcz17_12
    try clear hcz17_2
    try clear hcz17_3
    try clear hcz17_4
    try clear hcz17_5
    try clear hcz17_6
    try clear hcz17_7
    try clear hcz17_8
    try clear hcz17_9
    try clear hfz11_0
    try clear hfz11_1
    try clear hfz11_10
    try clear hfz11_11
    try clear hfz11_12
    try clear hfz11_2
    try clear hfz11_3
    try clear hfz11_4
    try clear hfz11_5
    try clear hfz11_6
    try clear hfz11_7
    try clear hfz11_8
    try clear hfz11_9
    try clear hfz13_0
    try clear hfz13_1
    try clear hfz13_10
    try clear hfz13_11
    try clear hfz13_12
    try clear hfz13_2
    try clear hfz13_3
    try clear hfz13_4
    try clear hfz13_5
    try clear hfz13_6
    try clear hfz13_7
    try clear hfz13_8
    try clear hfz13_9
    try clear hfz14_0
    try clear hfz14_1
    try clear hfz14_10
    try clear hfz14_11
    try clear hfz14_12
    try clear hfz14_2
    try clear hfz14_3
    try clear hfz14_4
    try clear hfz14_5
    try clear hfz14_6
    try clear hfz14_7
    try clear hfz14_8
    try clear hfz14_9
    try clear hfz15_0
    try clear hfz15_1
    try clear hfz15_10
    try clear hfz15_11
    try clear hfz15_12
    try clear hfz15_2
    try clear hfz15_3
    try clear hfz15_4
    try clear hfz15_5
    try clear hfz15_6
    try clear hfz15_7
    try clear hfz15_8
    try clear hfz15_9
    try clear hfz16_0
    try clear hfz16_1
    try clear hfz16_10
    try clear hfz16_11
    try clear hfz16_12
    try clear hfz16_2
    try clear hfz16_3
    try clear hfz16_4
    try clear hfz16_5
    try clear hfz16_6
    try clear hfz16_7
    try clear hfz16_8
    try clear hfz16_9
    try clear hfz17_0
    try clear hfz17_1
    try clear hfz17_10
    try clear hfz17_11
    try clear hfz17_12
    try clear hfz17_2
    try clear hfz17_3
    try clear hfz17_4
    try clear hfz17_5
    try clear hfz17_6
    try clear hfz17_7
    try clear hfz17_8
    try clear hfz17_9
    obtain ⟨kq, x37_3, rfl, HA, HJ3, BK177, HB⟩ := hcut
    cases kq with
    | zero => exact absurd HA.out (by simp [config_may.j0])
    | succ kj3 =>
      have H := HA.out
      clear HA
      simp only [config_may.j0] at H
      by_cases c18 : x37_3 = true
      · subst c18
        have H1 : (some false) = some r := by rw [if_pos rfl] at H; exact H
        clear H
        have H := H1
        clear H1
        obtain rfl := Option.some.inj H
        go_wp2
        go_ret
        exact ⟨by first | rfl | (simp [errW_none, errW_some] <;> rfl) | (simp [*, errW_none, errW_some] <;> rfl), by repeat (first | (with_reducible first | exact HB.out | apply below_alloc | apply pw_below_drewN | apply below_drew1 | refine below_set ?_ GE177.out) | exact HB.out)⟩
      · replace c18 := Bool.eq_false_iff.mpr c18
        subst c18
        have H1 : (if a0_5 = true then ((rule_Check.f kj3 a0_6 a0_7 a0_8 a0_9 a0_10 a0_11).bind fun t179 => (some (t179 == 0))) else ((rule_Same.f a0_6 a0_7 a0_8 a0_9 a0_10 a0_11 (⟨#[]⟩ : ByteArray) 0 0 0 false false).bind fun t180 => (some t180))) = some r := by rw [if_neg (show ¬ (false = true) by decide)] at H; exact H
        clear H
        have H := H1
        clear H1
        by_cases c19 : a0_5 = true
        · subst c19
          have H1 : ((rule_Check.f kj3 a0_6 a0_7 a0_8 a0_9 a0_10 a0_11).bind fun t179 => (some (t179 == 0))) = some r := by rw [if_pos rfl] at H; exact H
          clear H
          have H := H1
          clear H1
          replace H := Option.bind_eq_some_iff.mp H
          obtain ⟨t179, A200, H⟩ := H
          replace H : (some (t179 == 0)) = some r := H
          have A20 := Aside0.mk A200
          clear A200
          obtain rfl := Option.some.inj H
          have hcz21_0 : wc.cell? ⟨gb177, 0, none⟩ = some (.string a0_0) := (blk_cell BK177.out 0).trans rfl
          have hcz21_1 : wc.cell? ⟨gb177, 1, none⟩ = some (.string a0_1) := (blk_cell BK177.out 1).trans rfl
          have hcz21_2 : wc.cell? ⟨gb177, 2, none⟩ = some (.bool a0_2) := (blk_cell BK177.out 2).trans rfl
          have hcz21_3 : wc.cell? ⟨gb177, 3, none⟩ = some (.int .i64 a0_3) := (blk_cell BK177.out 3).trans rfl
          have hcz21_4 : wc.cell? ⟨gb177, 4, none⟩ = some (.int .i64 a0_4) := (blk_cell BK177.out 4).trans rfl
          have hcz21_5 : wc.cell? ⟨gb177, 5, none⟩ = some (.bool true) := (blk_cell BK177.out 5).trans rfl
          have hcz21_6 : wc.cell? ⟨gb177, 6, none⟩ = some (.string a0_6) := (blk_cell BK177.out 6).trans rfl
          have hcz21_7 : wc.cell? ⟨gb177, 7, none⟩ = some (.int .i64 a0_7) := (blk_cell BK177.out 7).trans rfl
          have hcz21_8 : wc.cell? ⟨gb177, 8, none⟩ = some (.int .i64 a0_8) := (blk_cell BK177.out 8).trans rfl
          have hcz21_9 : wc.cell? ⟨gb177, 9, none⟩ = some (.float .f64 a0_9) := (blk_cell BK177.out 9).trans rfl
          have hcz21_10 : wc.cell? ⟨gb177, 10, none⟩ = some (.bool a0_10) := (blk_cell BK177.out 10).trans rfl
          have hcz21_11 : wc.cell? ⟨gb177, 11, none⟩ = some (.bool a0_11) := (blk_cell BK177.out 11).trans rfl
          have hcz21_12 : wc.cell? ⟨gb177, 12, none⟩ = some (.slice A0_12 l0_12.length c0_12) := (blk_cell BK177.out 12).trans rfl
          have hfz21_0 := blk_frozen BK177.out 0
          have hfz21_1 := blk_frozen BK177.out 1
          have hfz21_2 := blk_frozen BK177.out 2
          have hfz21_3 := blk_frozen BK177.out 3
          have hfz21_4 := blk_frozen BK177.out 4
          have hfz21_5 := blk_frozen BK177.out 5
          have hfz21_6 := blk_frozen BK177.out 6
          have hfz21_7 := blk_frozen BK177.out 7
          have hfz21_8 := blk_frozen BK177.out 8
          have hfz21_9 := blk_frozen BK177.out 9
          have hfz21_10 := blk_frozen BK177.out 10
          have hfz21_11 := blk_frozen BK177.out 11
          have hfz21_12 := blk_frozen BK177.out 12
          go_wp2_with (first | ((with_reducible refine gate_callee (f := 54) rfl ?_); refine goesL_ (some 42) rfl rfl Try.func54 (by kernel_rfl) rfl #[.agg #[.string a0_6, .int .i64 a0_7, .int .i64 a0_8, .float .f64 a0_9, .bool a0_10, .bool a0_11]] rfl (by (try simp only [List.map_toArray, List.map_cons, List.map_nil]); first | done | rfl | (simp only [List.length_drop, List.length_take]; rfl)) ?_; (with_reducible refine (rule_Check.calls kj3 a0_6 a0_7 a0_8 a0_9 a0_10 a0_11 t179 _ A20.out).mono ?_); rintro e w22 ⟨rfl, hb⟩; refine ⟨_, rfl, ?_⟩; have n0_ := Aside0.mk (blk_below (g := gb177) (o := .cells #[.string a0_0, .string a0_1, .bool a0_2, .int .i64 a0_3, .int .i64 a0_4, .bool true, .string a0_6, .int .i64 a0_7, .int .i64 a0_8, .float .f64 a0_9, .bool a0_10, .bool a0_11, .slice A0_12 l0_12.length c0_12] 46 (0, 0)) (by (with_reducible repeat (first | refine blk_drewN ?_ _ | refine blk_drew ?_ | refine blk_alloc ?_ _)); exact BK177.out) hb); have n1_ := Aside0.mk (below_step (by repeat (first | (with_reducible first | exact HB.out | apply below_alloc | apply pw_below_drewN | apply below_drew1 | refine below_set ?_ GE177.out) | exact HB.out)) hb); clear BK177; clear HB; have BK177 := n0_; have HB := n1_; clear n0_ n1_; (try clear hb); (try clear hb2); (try clear hk); (try clear hi)))
          go_ret
          exact ⟨by first | rfl | (simp [errW_none, errW_some] <;> rfl) | (simp [*, errW_none, errW_some] <;> rfl), by repeat (first | (with_reducible first | exact HB.out | apply below_alloc | apply pw_below_drewN | apply below_drew1 | refine below_set ?_ GE177.out) | exact HB.out)⟩
        · replace c19 := Bool.eq_false_iff.mpr c19
          subst c19
          have H1 : ((rule_Same.f a0_6 a0_7 a0_8 a0_9 a0_10 a0_11 (⟨#[]⟩ : ByteArray) 0 0 0 false false).bind fun t180 => (some t180)) = some r := by rw [if_neg (show ¬ (false = true) by decide)] at H; exact H
          clear H
          have H := H1
          clear H1
          replace H := Option.bind_eq_some_iff.mp H
          obtain ⟨t180, A230, H⟩ := H
          replace H : (some t180) = some r := H
          have A23 := Aside0.mk A230
          clear A230
          obtain rfl := Option.some.inj H
          have hcz24_0 : wc.cell? ⟨gb177, 0, none⟩ = some (.string a0_0) := (blk_cell BK177.out 0).trans rfl
          have hcz24_1 : wc.cell? ⟨gb177, 1, none⟩ = some (.string a0_1) := (blk_cell BK177.out 1).trans rfl
          have hcz24_2 : wc.cell? ⟨gb177, 2, none⟩ = some (.bool a0_2) := (blk_cell BK177.out 2).trans rfl
          have hcz24_3 : wc.cell? ⟨gb177, 3, none⟩ = some (.int .i64 a0_3) := (blk_cell BK177.out 3).trans rfl
          have hcz24_4 : wc.cell? ⟨gb177, 4, none⟩ = some (.int .i64 a0_4) := (blk_cell BK177.out 4).trans rfl
          have hcz24_5 : wc.cell? ⟨gb177, 5, none⟩ = some (.bool false) := (blk_cell BK177.out 5).trans rfl
          have hcz24_6 : wc.cell? ⟨gb177, 6, none⟩ = some (.string a0_6) := (blk_cell BK177.out 6).trans rfl
          have hcz24_7 : wc.cell? ⟨gb177, 7, none⟩ = some (.int .i64 a0_7) := (blk_cell BK177.out 7).trans rfl
          have hcz24_8 : wc.cell? ⟨gb177, 8, none⟩ = some (.int .i64 a0_8) := (blk_cell BK177.out 8).trans rfl
          have hcz24_9 : wc.cell? ⟨gb177, 9, none⟩ = some (.float .f64 a0_9) := (blk_cell BK177.out 9).trans rfl
          have hcz24_10 : wc.cell? ⟨gb177, 10, none⟩ = some (.bool a0_10) := (blk_cell BK177.out 10).trans rfl
          have hcz24_11 : wc.cell? ⟨gb177, 11, none⟩ = some (.bool a0_11) := (blk_cell BK177.out 11).trans rfl
          have hcz24_12 : wc.cell? ⟨gb177, 12, none⟩ = some (.slice A0_12 l0_12.length c0_12) := (blk_cell BK177.out 12).trans rfl
          have hfz24_0 := blk_frozen BK177.out 0
          have hfz24_1 := blk_frozen BK177.out 1
          have hfz24_2 := blk_frozen BK177.out 2
          have hfz24_3 := blk_frozen BK177.out 3
          have hfz24_4 := blk_frozen BK177.out 4
          have hfz24_5 := blk_frozen BK177.out 5
          have hfz24_6 := blk_frozen BK177.out 6
          have hfz24_7 := blk_frozen BK177.out 7
          have hfz24_8 := blk_frozen BK177.out 8
          have hfz24_9 := blk_frozen BK177.out 9
          have hfz24_10 := blk_frozen BK177.out 10
          have hfz24_11 := blk_frozen BK177.out 11
          have hfz24_12 := blk_frozen BK177.out 12
          go_wp2_with (first | ((with_reducible refine gate_callee (f := 55) rfl ?_); refine goesL_ (some 47) rfl rfl Try.func55 (by kernel_rfl) rfl #[.agg #[.string a0_6, .int .i64 a0_7, .int .i64 a0_8, .float .f64 a0_9, .bool a0_10, .bool a0_11], .agg #[.string (⟨#[]⟩ : ByteArray), .int .i64 0, .int .i64 0, .float .f64 0, .bool false, .bool false]] rfl (by (try simp only [List.map_toArray, List.map_cons, List.map_nil]); first | done | rfl | (simp only [List.length_drop, List.length_take]; rfl)) ?_; (with_reducible refine (rule_Same.calls a0_6 a0_7 a0_8 a0_9 a0_10 a0_11 (⟨#[]⟩ : ByteArray) 0 0 0 false false t180 _ A23.out).mono ?_); rintro e w25 ⟨rfl, hb⟩; refine ⟨_, rfl, ?_⟩; have n0_ := Aside0.mk (blk_below (g := gb177) (o := .cells #[.string a0_0, .string a0_1, .bool a0_2, .int .i64 a0_3, .int .i64 a0_4, .bool false, .string a0_6, .int .i64 a0_7, .int .i64 a0_8, .float .f64 a0_9, .bool a0_10, .bool a0_11, .slice A0_12 l0_12.length c0_12] 46 (0, 0)) (by (with_reducible repeat (first | refine blk_drewN ?_ _ | refine blk_drew ?_ | refine blk_alloc ?_ _)); exact BK177.out) hb); have n1_ := Aside0.mk (below_step (by repeat (first | (with_reducible first | exact HB.out | apply below_alloc | apply pw_below_drewN | apply below_drew1 | refine below_set ?_ GE177.out) | exact HB.out)) hb); clear BK177; clear HB; have BK177 := n0_; have HB := n1_; clear n0_ n1_; (try clear hb); (try clear hb2); (try clear hk); (try clear hi)))
          go_ret
          exact ⟨by first | rfl | (simp [errW_none, errW_some] <;> rfl) | (simp [*, errW_none, errW_some] <;> rfl), by repeat (first | (with_reducible first | exact HB.out | apply below_alloc | apply pw_below_drewN | apply below_drew1 | refine below_set ?_ GE177.out) | exact HB.out)⟩
def turncockmake_Round.f (a0 : Int) (a1 : Int) : Option (Int) := if a1 = 0 then (none) else (if (Int.tmod a0 a1) < 0 then (some (wrap64 ((Int.tmod a0 a1) + a1))) else (some (Int.tmod a0 a1)))
set_option maxHeartbeats 8000000 in
set_option maxRecDepth 100000 in
theorem turncockmake_Round.calls (a0 : Int) (a1 : Int) (r : Int) (w : World) (h : turncockmake_Round.f a0 a1 = some r) :
    Calls Try.prog 32 #[.int .i64 a0, .int .i64 a1] w fun e w' => e = .returned (.int .i64 r) ∧ Drawn0 w w' := by
  have H : (if a1 = 0 then (none) else (if (Int.tmod a0 a1) < 0 then (some (wrap64 ((Int.tmod a0 a1) + a1))) else (some (Int.tmod a0 a1)))) = some r := h
  clear h
  by_cases c3 : a1 = 0
  · rw [if_pos c3] at H
    exact absurd H (by simp)
  · rw [if_neg c3] at H
    have c3b0 : (a1 == 0) = false := beq_eq_false_iff_ne.mpr c3
    have c3b1 : (a1 != 0) = true := bne_iff_ne.mpr c3
    by_cases c4 : (Int.tmod a0 a1) < 0
    · rw [if_pos c4] at H
      have c4b0 : decide ((Int.tmod a0 a1) < 0) = true := decide_eq_true c4
      clear c4
      obtain rfl := Option.some.inj H
      go_enter Try.func32, Try.ntmps32
      go_wp2
      go_ret
      exact ⟨by first | rfl | (simp; done) | (simp [*]; done), by repeat (first | exact Drawn0.refl _ | apply Drawn0.step)⟩
    · rw [if_neg c4] at H
      have c4b0 : decide ((Int.tmod a0 a1) < 0) = false := decide_eq_false c4
      clear c4
      obtain rfl := Option.some.inj H
      go_enter Try.func32, Try.ntmps32
      go_wp2
      go_ret
      exact ⟨by first | rfl | (simp; done) | (simp [*]; done), by repeat (first | exact Drawn0.refl _ | apply Drawn0.step)⟩
def IsS39 (w0 W : World) (g : Nat) (f0 : List Int) (f1 : Int) : Prop := ∃ A0 c0, W.heap[g]? = some (.cells #[.slice A0 f0.length c0, .int .i64 f1] 39 (0, 0)) ∧ w0.heap.size ≤ g ∧ Kd.C (Kd.int .i64) w0 A0 f0.length f0
theorem IsS39.grown {w0 W : World} {g : Nat} {f0 : List Int} {f1 : Int} {W1 : World} {row : Option Nat} (h : IsS39 w0 W g f0 f1) (hw : W.grownBy W1 row) (hne : some g ≠ row) : IsS39 w0 W1 g f0 f1 := by
  obtain ⟨A0, c0, hb, hg, hr0⟩ := h
  exact ⟨A0, c0, blk_grown hb hw hne, hg, hr0⟩
theorem IsS39.fresh {w0 W : World} {g : Nat} {f0 : List Int} {f1 : Int} (h : IsS39 w0 W g f0 f1) : ∀ k, W.heap.size ≤ k → k ≠ g := by
  obtain ⟨A0, c0, hb, hg, hr0⟩ := h
  exact Kd.freshB hb
theorem IsS39.kept {w0 W : World} {g : Nat} {f0 : List Int} {f1 : Int} {W1 : World} {S : Nat → Prop} (h : IsS39 w0 W g f0 f1) (hk : Kept W W1 S) (hne : ¬ S g) : IsS39 w0 W1 g f0 f1 := by
  obtain ⟨A0, c0, hb, hg, hr0⟩ := h
  exact ⟨A0, c0, blk_kept hb hk hne, hg, hr0⟩
theorem IsS39.below {w0 W : World} {g : Nat} {f0 : List Int} {f1 : Int} {W1 : World} (h : IsS39 w0 W g f0 f1) (hw : Below W.heap.size W W1) : IsS39 w0 W1 g f0 f1 := h.grown (grown_of_below hw none) (by simp)
theorem IsS39.alloc {w0 W : World} {g : Nat} {f0 : List Int} {f1 : Int} (h : IsS39 w0 W g f0 f1) (o : Obj) : IsS39 w0 (W.alloc o) g f0 f1 := h.below (below_alloc (Below.refl _ _) o)
theorem IsS39.drewN {w0 W : World} {g : Nat} {f0 : List Int} {f1 : Int} (h : IsS39 w0 W g f0 f1) (m : Nat) : IsS39 w0 (W.drewN m) g f0 f1 := h
theorem IsS39.drew {w0 W : World} {g : Nat} {f0 : List Int} {f1 : Int} (h : IsS39 w0 W g f0 f1) : IsS39 w0 W.drew g f0 f1 := h
theorem IsS39.at_ {w0 W : World} {g : Nat} {f0 : List Int} {f1 : Int} {w' : World} {m : Nat} (hq : W.drewN m = w') (h : IsS39 w0 W g f0 f1) : IsS39 w0 w' g f0 f1 := by subst hq; exact IsS39.drewN h m
theorem IsS39.apart {w0 W : World} {g : Nat} {f0 : List Int} {f1 : Int} {α : Type} {d : Kd α} {e : Nat} {base : Nat} {ok : Nat → Prop} {v : Value} {xs : List α} (h : IsS39 w0 W g f0 f1) (ho : d.R e W base ok v xs) (ht : ∀ q, q ∈ e :: d.E → q ≠ 39) : d.R e W base (fun k => ok k ∧ k ≠ g) v xs := by
  obtain ⟨A0, c0, hb, hg, hr0⟩ := h
  exact Kd.R_types ho hb ht
theorem IsS39.own_ne {w0 W : World} {g : Nat} {f0 : List Int} {f1 : Int} {α : Type} {d : Kd α} {e : Nat} {base : Nat} {ok : Nat → Prop} {v : Value} {xs : List α} (h : IsS39 w0 W g f0 f1) (ho : d.R e W base ok v xs) (ht : e ≠ 39) : some g ≠ v.ownBlock := by
  obtain ⟨A0, c0, hb, hg, hr0⟩ := h
  exact Kd.R_ne ho hb ht
theorem IsS39.lt {w0 W : World} {g : Nat} {f0 : List Int} {f1 : Int} (h : IsS39 w0 W g f0 f1) : g < W.heap.size := by
  obtain ⟨A0, c0, hb, hg, hr0⟩ := h
  exact blk_lt hb
theorem IsS39.ge {w0 W : World} {g : Nat} {f0 : List Int} {f1 : Int} (h : IsS39 w0 W g f0 f1) : w0.heap.size ≤ g := by
  obtain ⟨A0, c0, hb, hg, hr0⟩ := h
  exact hg
theorem IsS39.far {w0 W : World} {g : Nat} {f0 : List Int} {f1 : Int} {p : Addr} (h : IsS39 w0 W g f0 f1) (hne : g ≠ p.block) (u : Value) : IsS39 w0 (W.setCell p u) g f0 f1 := by
  obtain ⟨A0, c0, hb, hg, hr0⟩ := h
  exact ⟨A0, c0, blk_far hb hne u, hg, hr0⟩
theorem cellS39_0 {W : World} {g : Nat} {A0 : Option Addr} {c0 : Nat} {f0 : List Int} {f1 : Int} (h : W.heap[g]? = some (.cells #[.slice A0 f0.length c0, .int .i64 f1] 39 (0, 0))) : W.cell? ⟨g, 0, none⟩ = some (.slice A0 f0.length c0) := (blk_cell h 0).trans rfl
theorem cellS39_1 {W : World} {g : Nat} {A0 : Option Addr} {c0 : Nat} {f0 : List Int} {f1 : Int} (h : W.heap[g]? = some (.cells #[.slice A0 f0.length c0, .int .i64 f1] 39 (0, 0))) : W.cell? ⟨g, 1, none⟩ = some (.int .i64 f1) := (blk_cell h 1).trans rfl
theorem IsS39.set_1 {w0 W : World} {g : Nat} {f0 : List Int} {f1 : Int} (h : IsS39 w0 W g f0 f1) (x : Int) : IsS39 w0 (W.setCell ⟨g, 1, none⟩ (.int .i64 x)) g f0 x := by
  obtain ⟨A0, c0, hb, hg, hr0⟩ := h
  exact ⟨A0, c0, by simpa using blk_set hb 1 (.int .i64 x), hg, hr0⟩
def turncockmake_Tape_Next.f (s0_0 : List Int) (s0_1 : Int) (a1 : Int) : Option (Int × Int) := if s0_1 ≥ (s0_0.length : Int) then (some (0, s0_1)) else (if 0 ≤ (wrap64 ((wrap64 (s0_1 + 1)) - 1)) then (if (wrap64 ((wrap64 (s0_1 + 1)) - 1)) < (s0_0.length : Int) then ((turncockmake_Round.f (rd s0_0 (wrap64 ((wrap64 (s0_1 + 1)) - 1))) a1).bind fun t190 => (some (t190, wrap64 (s0_1 + 1)))) else (none)) else (none))
set_option maxHeartbeats 8000000 in
set_option maxRecDepth 100000 in
theorem turncockmake_Tape_Next.calls (g : Nat) (s0_0 : List Int) (s0_1 : Int) (a1 : Int) (r1 : Int) (r2 : Int) (w0 w : World) (hI : IsS39 w0 w g s0_0 s0_1) (hB : Below w0.heap.size w0 w) (h : turncockmake_Tape_Next.f s0_0 s0_1 a1 = some (r1, r2)) :
    Calls Try.prog 18 #[.pointer (some ⟨g, 0, none⟩), .int .i64 a1] w fun e w' => e = .returned (.int .i64 r1) ∧ IsS39 w0 w' g s0_0 r2 ∧ Below w0.heap.size w0 w' ∧ KeepBut w w' g none := by
  have HI0 := Aside0.mk hI
  have HK := Aside0.mk (KeepBut.refl w g none)
  have HL := Aside0.mk hB.size
  clear hI
  have HW0 := Aside0.mk hB.size
  have HB := Aside0.mk hB
  clear hB
  have H : (if s0_1 ≥ (s0_0.length : Int) then (some (0, s0_1)) else (if 0 ≤ (wrap64 ((wrap64 (s0_1 + 1)) - 1)) then (if (wrap64 ((wrap64 (s0_1 + 1)) - 1)) < (s0_0.length : Int) then ((turncockmake_Round.f (rd s0_0 (wrap64 ((wrap64 (s0_1 + 1)) - 1))) a1).bind fun t190 => (some (t190, wrap64 (s0_1 + 1)))) else (none)) else (none))) = some (r1, r2) := h
  clear h
  by_cases c3 : s0_1 ≥ (s0_0.length : Int)
  · rw [if_pos c3] at H
    have c3b0 : decide ((s0_0.length : Int) ≤ s0_1) = true := decide_eq_true c3
    clear c3
    simp only [Option.some.injEq, Prod.mk.injEq] at H
    obtain ⟨rfl, rfl⟩ := H
    obtain ⟨ASz4_0, cSz4_0, HGz4, hgz4, HSz4_0⟩ := HI0.out
    have hcz4_0 := cellS39_0 HGz4
    have hcz4_1 := cellS39_1 HGz4
    have hfz4_1 := blk_frozen HGz4 1
    clear HGz4 hgz4
    go_enter Try.func18, Try.ntmps18
    go_wp2
    repeat (go_quiet (fail); try go_wp2)
    go_ret
    exact ⟨by first | rfl | (simp [errW_none, errW_some] <;> rfl) | (simp [*, errW_none, errW_some] <;> rfl), by repeat (first | (with_reducible first | exact HI0.out | apply IsS39.alloc | apply IsS39.drewN | apply IsS39.drew | apply IsS39.set_1) | exact HI0.out), by repeat (first | (with_reducible first | exact HB.out | apply below_alloc | apply pw_below_drewN | apply below_drew1 | refine below_set ?_ (IsS39.ge HI0.out)) | exact HB.out), by repeat (first | (with_reducible first | exact HK.out | apply KeepBut.set_ | apply keep_drewN | apply keep_drew | apply keep_alloc) | exact HK.out)⟩
  · rw [if_neg c3] at H
    have c3b0 : decide ((s0_0.length : Int) ≤ s0_1) = false := decide_eq_false c3
    clear c3
    obtain ⟨ji5, hji5⟩ : ∃ j_ : Int, (wrap64 ((wrap64 (s0_1 + 1)) - 1)) = j_ := ⟨_, rfl⟩
    replace H : (if 0 ≤ (ji5) then (if (ji5) < (s0_0.length : Int) then ((turncockmake_Round.f (rd s0_0 (ji5)) a1).bind fun t190 => (some (t190, wrap64 (s0_1 + 1)))) else (none)) else (none)) = some (r1, r2) := by first | (rw [hji5] at H; exact H) | (simp only [hji5] at H ⊢; exact H)
    have hji5w : (IntKind.i64.wrap ((wrap64 (s0_1 + 1)) - 1)) = ji5 := (i64_w _).trans hji5
    by_cases c6 : 0 ≤ (ji5)
    · rw [if_pos c6] at H
      have c6b0 : decide (0 ≤ (ji5)) = true := decide_eq_true c6
      clear c6
      by_cases c7 : (ji5) < (s0_0.length : Int)
      · rw [if_pos c7] at H
        have c7b0 : decide ((ji5) < (s0_0.length : Int)) = true := decide_eq_true c7
        clear c7
        replace H := Option.bind_eq_some_iff.mp H
        obtain ⟨t190, A80, H⟩ := H
        replace H : (some (t190, wrap64 (s0_1 + 1))) = some (r1, r2) := H
        have A8 := Aside0.mk A80
        clear A80
        simp only [Option.some.injEq, Prod.mk.injEq] at H
        obtain ⟨rfl, rfl⟩ := H
        obtain ⟨ASz9_0, cSz9_0, HGz9, hgz9, HSz9_0⟩ := HI0.out
        have hcz9_0 := cellS39_0 HGz9
        have hcz9_1 := cellS39_1 HGz9
        have hfz9_1 := blk_frozen HGz9 1
        clear HGz9 hgz9
        have p189 : 0 ≤ ((ji5) : Int) := of_decide_eq_true (by first | (with_reducible assumption) | assumption)
        have q189 : (ji5) < (s0_0.length : Int) := of_decide_eq_true (by first | (with_reducible assumption) | assumption)
        obtain ⟨ad189, e189, hx189_0⟩ := Kd.at_int HSz9_0 (ji5) p189 q189
        cases e189
        have hn189_0 : ad189.block ≠ g := Nat.ne_of_lt (Nat.lt_of_lt_of_le (by have := World.block_lt_of_cell? _ _ hx189_0; first | rwa [add_block] at this | exact this) (IsS39.ge HI0.out))
        replace hx189_0 := pw_cell_below HB.out hx189_0
        replace hx189_0 := (cell_far (p := ⟨g, 1, none⟩) (by first | (rw [add_block]; exact hn189_0) | (show (Addr.add _ _).block ≠ _; rw [add_block]; exact hn189_0) | exact hn189_0) (.int .i64 (wrap64 (s0_1 + 1)))).trans hx189_0
        (try have hy189_0 := fun (n_ : Nat) => (show (((w.drewN n_).setCell ⟨g, 1, none⟩ (.int .i64 (wrap64 (s0_1 + 1))))).cell? _ = some _ from hx189_0))
        clear hn189_0
        replace p189 := eq_true p189
        replace q189 := eq_true q189
        go_enter Try.func18, Try.ntmps18
        go_wp2_with (first | (go_at_call 32; (with_reducible refine (turncockmake_Round.calls (rd s0_0 (ji5)) a1 t190 _ A8.out).mono ?_); rintro e w' ⟨rfl, ⟨nd, rfl⟩⟩; (try first | exact ⟨rfl, _, World.drewN_drewN _ _ _⟩ | exact ⟨rfl, _, Eq.trans (World.drewN_drewN _ _ _) (congrArg (World.drewN _) (Nat.add_assoc _ _ _))⟩)))
        repeat (go_quiet (first | (go_at_call 32; (with_reducible refine (turncockmake_Round.calls (rd s0_0 (ji5)) a1 t190 _ A8.out).mono ?_); rintro e w' ⟨rfl, ⟨nd, rfl⟩⟩; (try first | exact ⟨rfl, _, World.drewN_drewN _ _ _⟩ | exact ⟨rfl, _, Eq.trans (World.drewN_drewN _ _ _) (congrArg (World.drewN _) (Nat.add_assoc _ _ _))⟩))); try go_wp2_with (first | (go_at_call 32; (with_reducible refine (turncockmake_Round.calls (rd s0_0 (ji5)) a1 t190 _ A8.out).mono ?_); rintro e w' ⟨rfl, ⟨nd, rfl⟩⟩; (try first | exact ⟨rfl, _, World.drewN_drewN _ _ _⟩ | exact ⟨rfl, _, Eq.trans (World.drewN_drewN _ _ _) (congrArg (World.drewN _) (Nat.add_assoc _ _ _))⟩))))
        go_ret
        exact ⟨by first | rfl | (simp [errW_none, errW_some] <;> rfl) | (simp only [← hji5]; first | rfl | (simp [errW_none, errW_some] <;> rfl)) | (simp [*, errW_none, errW_some] <;> rfl), by repeat (first | (with_reducible first | exact HI0.out | apply IsS39.alloc | apply IsS39.drewN | apply IsS39.drew | apply IsS39.set_1) | exact HI0.out), by repeat (first | (with_reducible first | exact HB.out | apply below_alloc | apply pw_below_drewN | apply below_drew1 | refine below_set ?_ (IsS39.ge HI0.out)) | exact HB.out), by repeat (first | (with_reducible first | exact HK.out | apply KeepBut.set_ | apply keep_drewN | apply keep_drew | apply keep_alloc) | exact HK.out)⟩
      · rw [if_neg c7] at H
        exact absurd H (by simp)
    · rw [if_neg c6] at H
      exact absurd H (by simp)
def turncockmake_Values.f  : Option (List ByteArray) := some (([(⟨#[97, 108]⟩ : ByteArray), (⟨#[98, 111, 98]⟩ : ByteArray), (⟨#[]⟩ : ByteArray), (⟨#[120, 32, 121]⟩ : ByteArray), (⟨#[49, 48, 46, 48, 46, 48, 46, 49]⟩ : ByteArray), (⟨#[0, 255]⟩ : ByteArray), (⟨#[97, 34, 98, 39, 35]⟩ : ByteArray)] : List ByteArray))
set_option maxHeartbeats 8000000 in
set_option maxRecDepth 100000 in
theorem turncockmake_Values.calls  (r : List ByteArray) (w : World) (h : turncockmake_Values.f  = some r) :
    Calls Try.prog 23 #[] w fun e w' => ∃ v0_ : Value, e = .returned (v0_) ∧ Kd.R Kd.string 9 w' w.heap.size (fun _ => True) v0_ r ∧ Below w.heap.size w w' := by
  have HB := Aside0.mk (Below.refl w.heap.size w)
  have H : (some (([(⟨#[97, 108]⟩ : ByteArray), (⟨#[98, 111, 98]⟩ : ByteArray), (⟨#[]⟩ : ByteArray), (⟨#[120, 32, 121]⟩ : ByteArray), (⟨#[49, 48, 46, 48, 46, 48, 46, 49]⟩ : ByteArray), (⟨#[0, 255]⟩ : ByteArray), (⟨#[97, 34, 98, 39, 35]⟩ : ByteArray)] : List ByteArray))) = some r := h
  clear h
  obtain ⟨y191, hy191⟩ : ∃ y_ : List ByteArray, y_ = (([(⟨#[97, 108]⟩ : ByteArray), (⟨#[98, 111, 98]⟩ : ByteArray), (⟨#[]⟩ : ByteArray), (⟨#[120, 32, 121]⟩ : ByteArray), (⟨#[49, 48, 46, 48, 46, 48, 46, 49]⟩ : ByteArray), (⟨#[0, 255]⟩ : ByteArray), (⟨#[97, 34, 98, 39, 35]⟩ : ByteArray)] : List ByteArray)) := ⟨_, rfl⟩
  replace H : (some y191) = some r := by first | (rw [hy191]; with_reducible exact H) | (have H2_ := (Option.bind_some _ _).symm.trans H; rw [hy191]; with_reducible exact H2_) | (have H2_ := (Option.bind_some _ _).symm.trans H; with_reducible exact H2_) | with_reducible exact H | (rw [hy191]; exact H) | exact H
  have Ny191 := Aside0.mk hy191
  clear hy191
  obtain rfl := Option.some.inj H
  go_enter Try.func23, Try.ntmps23
  go_wp2_with (first | ((with_reducible refine gate_dst (N := 1) rfl ?_); refine Kd.R_lit Kd.string _ 9 ?hg (N := 1) ?hd (xs := ([(⟨#[97, 108]⟩ : ByteArray), (⟨#[98, 111, 98]⟩ : ByteArray), (⟨#[]⟩ : ByteArray), (⟨#[120, 32, 121]⟩ : ByteArray), (⟨#[49, 48, 46, 48, 46, 48, 46, 49]⟩ : ByteArray), (⟨#[0, 255]⟩ : ByteArray), (⟨#[97, 34, 98, 39, 35]⟩ : ByteArray)] : List ByteArray)) (inner := [.string (⟨#[97, 108]⟩ : ByteArray), .string (⟨#[98, 111, 98]⟩ : ByteArray), .string (⟨#[]⟩ : ByteArray), .string (⟨#[120, 32, 121]⟩ : ByteArray), .string (⟨#[49, 48, 46, 48, 46, 48, 46, 49]⟩ : ByteArray), .string (⟨#[0, 255]⟩ : ByteArray), .string (⟨#[97, 34, 98, 39, 35]⟩ : ByteArray)]) (ok := fun _ => True) (okp := fun _ => True) ?hr ?hp (fun _ hk => hk) trivial (Below.refl _ _) (Nat.le_refl _) (by simp) ?_; (case hd => rfl); (case hg => rfl); (case hr => first | (go_simp; done) | (go_simp; rfl)); (case hp => exact (Reps.one (show Kd.M Kd.string _ _ _ (⟨#[97, 108]⟩ : ByteArray) [.string (⟨#[97, 108]⟩ : ByteArray)] from rfl) (Reps.one (show Kd.M Kd.string _ _ _ (⟨#[98, 111, 98]⟩ : ByteArray) [.string (⟨#[98, 111, 98]⟩ : ByteArray)] from rfl) (Reps.one (show Kd.M Kd.string _ _ _ (⟨#[]⟩ : ByteArray) [.string (⟨#[]⟩ : ByteArray)] from rfl) (Reps.one (show Kd.M Kd.string _ _ _ (⟨#[120, 32, 121]⟩ : ByteArray) [.string (⟨#[120, 32, 121]⟩ : ByteArray)] from rfl) (Reps.one (show Kd.M Kd.string _ _ _ (⟨#[49, 48, 46, 48, 46, 48, 46, 49]⟩ : ByteArray) [.string (⟨#[49, 48, 46, 48, 46, 48, 46, 49]⟩ : ByteArray)] from rfl) (Reps.one (show Kd.M Kd.string _ _ _ (⟨#[0, 255]⟩ : ByteArray) [.string (⟨#[0, 255]⟩ : ByteArray)] from rfl) (Reps.one (show Kd.M Kd.string _ _ _ (⟨#[97, 34, 98, 39, 35]⟩ : ByteArray) [.string (⟨#[97, 34, 98, 39, 35]⟩ : ByteArray)] from rfl) (Reps.none _ _))))))))); intro v192 w1 ho2 hb hg_ hnew_; clear hg_ hnew_; (first | rw [← Ny191.out] at ho2 | (simp only [Int.reduceToNat] at ho2; rw [← Ny191.out] at ho2)); have n0_ := Aside0.mk (Kd.R_lower ho2 (below_size (by repeat (first | (with_reducible first | exact HB.out | apply below_alloc | apply pw_below_drewN | apply below_drew1) | exact HB.out)))); have n1_ := Aside0.mk (below_step (by repeat (first | (with_reducible first | exact HB.out | apply below_alloc | apply pw_below_drewN | apply below_drew1) | exact HB.out)) hb); clear HB; have HO193 := n0_; have HB := n1_; clear n0_ n1_; clear hb ho2))
  go_ret
  exact ⟨_, by first | rfl | (simp [errW_none, errW_some] <;> rfl) | (simp [*, errW_none, errW_some] <;> rfl), by (with_reducible repeat (first | apply Kd.R_alloc | apply Kd.R_drewN | apply Kd.R_drew)); exact HO193.out, by repeat (first | (with_reducible first | exact HB.out | apply below_alloc | apply pw_below_drewN | apply below_drew1) | exact HB.out)⟩
def turncockmake_Tape_Of.f (s0_0 : List Int) (s0_1 : Int) (l1 : List ByteArray) : Option (ByteArray × Int) := (turncockmake_Tape_Next.f s0_0 s0_1 (l1.length : Int)).bind fun bt194 => (if 0 ≤ bt194.1 then (if bt194.1 < (l1.length : Int) then (some (rdOf ByteArray.empty l1 bt194.1, bt194.2)) else (none)) else (none))
set_option maxHeartbeats 8000000 in
set_option maxRecDepth 100000 in
theorem turncockmake_Tape_Of.calls (g : Nat) (s0_0 : List Int) (s0_1 : Int) (A1 : Option Addr) (c1 : Nat) (l1 : List ByteArray) (r1 : ByteArray) (r2 : Int) (w0 w : World) (hI : IsS39 w0 w g s0_0 s0_1) (hB : Below w0.heap.size w0 w) (hr1 : Kd.C Kd.string w A1 l1.length l1) (hc1 : l1.length ≤ c1) (hf1 : ∀ ad, A1 = some ad → 0 < l1.length → ad.block ≠ g) (h : turncockmake_Tape_Of.f s0_0 s0_1 l1 = some (r1, r2)) :
    Calls Try.prog 24 #[.pointer (some ⟨g, 0, none⟩), .slice A1 l1.length c1] w fun e w' => e = .returned (.string r1) ∧ IsS39 w0 w' g s0_0 r2 ∧ Below w0.heap.size w0 w' ∧ KeepBut w w' g none := by
  have HR1 := Aside0.mk hr1
  have HC1 := Aside0.mk hc1
  clear hr1 hc1
  have HI0 := Aside0.mk hI
  have HK := Aside0.mk (KeepBut.refl w g none)
  have HL := Aside0.mk hB.size
  clear hI
  have HW0 := Aside0.mk hB.size
  have HB := Aside0.mk hB
  clear hB
  have H : ((turncockmake_Tape_Next.f s0_0 s0_1 (l1.length : Int)).bind fun bt194 => (if 0 ≤ bt194.1 then (if bt194.1 < (l1.length : Int) then (some (rdOf ByteArray.empty l1 bt194.1, bt194.2)) else (none)) else (none))) = some (r1, r2) := h
  clear h
  replace H := Option.bind_eq_some_iff.mp H
  obtain ⟨⟨t194, t195⟩, A30, H⟩ := H
  replace H : (if 0 ≤ t194 then (if t194 < (l1.length : Int) then (some (rdOf ByteArray.empty l1 t194, t195)) else (none)) else (none)) = some (r1, r2) := H
  have A3 := Aside0.mk A30
  clear A30
  by_cases c4 : 0 ≤ t194
  · rw [if_pos c4] at H
    have c4b0 : decide (0 ≤ t194) = true := decide_eq_true c4
    clear c4
    by_cases c5 : t194 < (l1.length : Int)
    · rw [if_pos c5] at H
      have c5b0 : decide (t194 < (l1.length : Int)) = true := decide_eq_true c5
      clear c5
      simp only [Option.some.injEq, Prod.mk.injEq] at H
      obtain ⟨rfl, rfl⟩ := H
      go_enter Try.func24, Try.ntmps24
      go_wp2_with (first | ((with_reducible refine gate_callee (f := 18) rfl ?_); refine goesL_ (some 9) rfl rfl Try.func18 (by kernel_rfl) rfl #[.pointer (some ⟨g, 0, none⟩), .int .i64 (l1.length : Int)] rfl (by (try simp only [List.map_toArray, List.map_cons, List.map_nil]); first | done | rfl | (simp only [List.length_drop, List.length_take]; rfl)) ?_; (with_reducible refine (turncockmake_Tape_Next.calls g s0_0 s0_1 (l1.length : Int) t194 t195 w0 _ ?side1 ?side2 A3.out).mono ?_); (case side1 => repeat (first | (with_reducible first | exact HI0.out | apply IsS39.alloc | apply IsS39.drewN | apply IsS39.drew | apply IsS39.set_1) | exact HI0.out)); (case side2 => repeat (first | (with_reducible first | exact HB.out | apply below_alloc | apply pw_below_drewN | apply below_drew1 | refine below_set ?_ (IsS39.ge HI0.out)) | exact HB.out)); rintro e w6 ⟨rfl, hi, hb, hk⟩; refine ⟨_, rfl, ?_⟩; have n0_ := Aside0.mk (KeepBut.trans (by repeat (first | (with_reducible first | exact HK.out | apply KeepBut.set_ | apply keep_drewN | apply keep_drew | apply keep_alloc) | exact HK.out)) hk (.inl rfl)); have n1_ := Aside0.mk (hb); have n2_ := Aside0.mk (hi); clear HK; clear HB; clear HI0; have HK := n0_; have HB := n1_; have HI0 := n2_; clear n0_ n1_ n2_; (try clear hb); (try clear hb2); (try clear hk); (try clear hi); have p196 : 0 ≤ (t194 : Int) := of_decide_eq_true (by first | (with_reducible assumption) | assumption); have q196 : t194 < (l1.length : Int) := of_decide_eq_true (by first | (with_reducible assumption) | assumption); obtain ⟨ad196, e196, hx196_0⟩ := Kd.at_string HR1.out t194 p196 q196; cases e196; replace hx196_0 := keep_cell HK.out hx196_0 (by first | (rw [add_block]; exact hf1 _ rfl (by omega)) | exact hf1 _ rfl (by omega) | exact hf1 ad196 rfl (by omega)); replace p196 := eq_true p196; replace q196 := eq_true q196))
      go_ret
      exact ⟨by first | rfl | (simp [errW_none, errW_some] <;> rfl) | (simp [*, errW_none, errW_some] <;> rfl), by repeat (first | (with_reducible first | exact HI0.out | apply IsS39.alloc | apply IsS39.drewN | apply IsS39.drew | apply IsS39.set_1) | exact HI0.out), by repeat (first | (with_reducible first | exact HB.out | apply below_alloc | apply pw_below_drewN | apply below_drew1 | refine below_set ?_ (IsS39.ge HI0.out)) | exact HB.out), by repeat (first | (with_reducible first | exact HK.out | apply KeepBut.set_ | apply keep_drewN | apply keep_drew | apply keep_alloc) | exact HK.out)⟩
    · rw [if_neg c5] at H
      exact absurd H (by simp)
  · rw [if_neg c4] at H
    exact absurd H (by simp)
def turncockmake_Keys.f  : Option (List ByteArray) := some (([(⟨#[117, 115, 101, 114]⟩ : ByteArray), (⟨#[105, 112]⟩ : ByteArray), (⟨#[112, 97, 116, 104]⟩ : ByteArray), (⟨#[97, 32, 98]⟩ : ByteArray), (⟨#[107, 44, 61, 124, 37]⟩ : ByteArray)] : List ByteArray))
set_option maxHeartbeats 8000000 in
set_option maxRecDepth 100000 in
theorem turncockmake_Keys.calls  (r : List ByteArray) (w : World) (h : turncockmake_Keys.f  = some r) :
    Calls Try.prog 33 #[] w fun e w' => ∃ v0_ : Value, e = .returned (v0_) ∧ Kd.R Kd.string 9 w' w.heap.size (fun _ => True) v0_ r ∧ Below w.heap.size w w' := by
  have HB := Aside0.mk (Below.refl w.heap.size w)
  have H : (some (([(⟨#[117, 115, 101, 114]⟩ : ByteArray), (⟨#[105, 112]⟩ : ByteArray), (⟨#[112, 97, 116, 104]⟩ : ByteArray), (⟨#[97, 32, 98]⟩ : ByteArray), (⟨#[107, 44, 61, 124, 37]⟩ : ByteArray)] : List ByteArray))) = some r := h
  clear h
  obtain ⟨y197, hy197⟩ : ∃ y_ : List ByteArray, y_ = (([(⟨#[117, 115, 101, 114]⟩ : ByteArray), (⟨#[105, 112]⟩ : ByteArray), (⟨#[112, 97, 116, 104]⟩ : ByteArray), (⟨#[97, 32, 98]⟩ : ByteArray), (⟨#[107, 44, 61, 124, 37]⟩ : ByteArray)] : List ByteArray)) := ⟨_, rfl⟩
  replace H : (some y197) = some r := by first | (rw [hy197]; with_reducible exact H) | (have H2_ := (Option.bind_some _ _).symm.trans H; rw [hy197]; with_reducible exact H2_) | (have H2_ := (Option.bind_some _ _).symm.trans H; with_reducible exact H2_) | with_reducible exact H | (rw [hy197]; exact H) | exact H
  have Ny197 := Aside0.mk hy197
  clear hy197
  obtain rfl := Option.some.inj H
  go_enter Try.func33, Try.ntmps33
  go_wp2_with (first | ((with_reducible refine gate_dst (N := 1) rfl ?_); refine Kd.R_lit Kd.string _ 9 ?hg (N := 1) ?hd (xs := ([(⟨#[117, 115, 101, 114]⟩ : ByteArray), (⟨#[105, 112]⟩ : ByteArray), (⟨#[112, 97, 116, 104]⟩ : ByteArray), (⟨#[97, 32, 98]⟩ : ByteArray), (⟨#[107, 44, 61, 124, 37]⟩ : ByteArray)] : List ByteArray)) (inner := [.string (⟨#[117, 115, 101, 114]⟩ : ByteArray), .string (⟨#[105, 112]⟩ : ByteArray), .string (⟨#[112, 97, 116, 104]⟩ : ByteArray), .string (⟨#[97, 32, 98]⟩ : ByteArray), .string (⟨#[107, 44, 61, 124, 37]⟩ : ByteArray)]) (ok := fun _ => True) (okp := fun _ => True) ?hr ?hp (fun _ hk => hk) trivial (Below.refl _ _) (Nat.le_refl _) (by simp) ?_; (case hd => rfl); (case hg => rfl); (case hr => first | (go_simp; done) | (go_simp; rfl)); (case hp => exact (Reps.one (show Kd.M Kd.string _ _ _ (⟨#[117, 115, 101, 114]⟩ : ByteArray) [.string (⟨#[117, 115, 101, 114]⟩ : ByteArray)] from rfl) (Reps.one (show Kd.M Kd.string _ _ _ (⟨#[105, 112]⟩ : ByteArray) [.string (⟨#[105, 112]⟩ : ByteArray)] from rfl) (Reps.one (show Kd.M Kd.string _ _ _ (⟨#[112, 97, 116, 104]⟩ : ByteArray) [.string (⟨#[112, 97, 116, 104]⟩ : ByteArray)] from rfl) (Reps.one (show Kd.M Kd.string _ _ _ (⟨#[97, 32, 98]⟩ : ByteArray) [.string (⟨#[97, 32, 98]⟩ : ByteArray)] from rfl) (Reps.one (show Kd.M Kd.string _ _ _ (⟨#[107, 44, 61, 124, 37]⟩ : ByteArray) [.string (⟨#[107, 44, 61, 124, 37]⟩ : ByteArray)] from rfl) (Reps.none _ _))))))); intro v198 w1 ho2 hb hg_ hnew_; clear hg_ hnew_; (first | rw [← Ny197.out] at ho2 | (simp only [Int.reduceToNat] at ho2; rw [← Ny197.out] at ho2)); have n0_ := Aside0.mk (Kd.R_lower ho2 (below_size (by repeat (first | (with_reducible first | exact HB.out | apply below_alloc | apply pw_below_drewN | apply below_drew1) | exact HB.out)))); have n1_ := Aside0.mk (below_step (by repeat (first | (with_reducible first | exact HB.out | apply below_alloc | apply pw_below_drewN | apply below_drew1) | exact HB.out)) hb); clear HB; have HO199 := n0_; have HB := n1_; clear n0_ n1_; clear hb ho2))
  go_ret
  exact ⟨_, by first | rfl | (simp [errW_none, errW_some] <;> rfl) | (simp [*, errW_none, errW_some] <;> rfl), by (with_reducible repeat (first | apply Kd.R_alloc | apply Kd.R_drewN | apply Kd.R_drew)); exact HO199.out, by repeat (first | (with_reducible first | exact HB.out | apply below_alloc | apply pw_below_drewN | apply below_drew1) | exact HB.out)⟩
end Go.Proofs.Ytipbigdpannlcaa.PTrieFits
