/- What the law TrieRaw uses, thinned: printed by shake2.py. -/
import Derived.Test.YtipbigdpannlcaaTTrieRawPTrieFitsx0
import Derived.Test.YtipbigdpannlcaaTTrieRawPTrieFitsx10
import Derived.Test.YtipbigdpannlcaaTTrieRawPTrieFitsx12
namespace Go.Proofs.Ytipbigdpannlcaa.PTrieFits
open Go.RowKit Go.Proofs.YtipbigdpannlcaaW.PrintWords Go.Proofs.YtipbigdpannlcaaW.PrintLast Go.Proofs.YtipbigdpannlcaaW.PrintMore
attribute [local go_sem] max2_int min2_int max_two min_two max_three min_three max_four min_four
set_option linter.unusedVariables false
set_option linter.unusedSimpArgs false
def turncockref15_branchFits.j0 : Nat → Bool → ByteArray → ByteArray → Bool → Int → Int → Bool → ByteArray → Int → Int → Nat → Bool → Bool → List Int → Option (Bool)
  | 0, _, _, _, _, _, _, _, _, _, _, _, _, _, _ => none
  | k + 1, x37, x312000, x312001, x312002, x312003, x312004, x312005, x312006, x312007, x312008, x312009, x312010, x312011, x312012 => if x37 = true then (some false) else (if x312005 = true then ((turncockref15_CheckRule.f k x312006 x312007 x312008 x312009 x312010 x312011).bind fun t313 => (some t313)) else ((turncockref15_SameRule.f k x312006 x312007 x312008 x312009 x312010 x312011 (⟨#[]⟩ : ByteArray) 0 0 0 false false).bind fun t314 => (some t314)))
def turncockref15_branchFits.f (k : Nat) (a0_0 : ByteArray) (a0_1 : ByteArray) (a0_2 : Bool) (a0_3 : Int) (a0_4 : Int) (a0_5 : Bool) (a0_6 : ByteArray) (a0_7 : Int) (a0_8 : Int) (a0_9 : Nat) (a0_10 : Bool) (a0_11 : Bool) (l0_12 : List Int) (a1 : Int) (a2 : Int) : Option (Bool) := if a0_3 = a1 then (if a0_4 = a2 then ((turncockref1_Name.f k a0_0).bind fun t312 => (if t312 = true then (if (a0_1.size : Int) > 128 then (turncockref15_branchFits.j0 k true a0_0 a0_1 a0_2 a0_3 a0_4 a0_5 a0_6 a0_7 a0_8 a0_9 a0_10 a0_11 l0_12) else (if a0_2 = true then (turncockref15_branchFits.j0 k (a0_1.toList != ([] : List UInt8)) a0_0 a0_1 a0_2 a0_3 a0_4 a0_5 a0_6 a0_7 a0_8 a0_9 a0_10 a0_11 l0_12) else (turncockref15_branchFits.j0 k false a0_0 a0_1 a0_2 a0_3 a0_4 a0_5 a0_6 a0_7 a0_8 a0_9 a0_10 a0_11 l0_12))) else (turncockref15_branchFits.j0 k true a0_0 a0_1 a0_2 a0_3 a0_4 a0_5 a0_6 a0_7 a0_8 a0_9 a0_10 a0_11 l0_12))) else (turncockref15_branchFits.j0 k true a0_0 a0_1 a0_2 a0_3 a0_4 a0_5 a0_6 a0_7 a0_8 a0_9 a0_10 a0_11 l0_12)) else (turncockref15_branchFits.j0 k true a0_0 a0_1 a0_2 a0_3 a0_4 a0_5 a0_6 a0_7 a0_8 a0_9 a0_10 a0_11 l0_12)
set_option maxHeartbeats 8000000 in
set_option maxRecDepth 100000 in
theorem turncockref15_branchFits.calls (k : Nat) (a0_0 : ByteArray) (a0_1 : ByteArray) (a0_2 : Bool) (a0_3 : Int) (a0_4 : Int) (a0_5 : Bool) (a0_6 : ByteArray) (a0_7 : Int) (a0_8 : Int) (a0_9 : Nat) (a0_10 : Bool) (a0_11 : Bool) (A0_12 : Option Addr) (c0_12 : Nat) (l0_12 : List Int) (a1 : Int) (a2 : Int) (r : Bool) (w : World) (hr0_12 : Kd.C (Kd.int .i64) w A0_12 l0_12.length l0_12) (hc0_12 : l0_12.length ≤ c0_12) (h : turncockref15_branchFits.f k a0_0 a0_1 a0_2 a0_3 a0_4 a0_5 a0_6 a0_7 a0_8 a0_9 a0_10 a0_11 l0_12 a1 a2 = some r) :
    Calls Try.prog 41 #[.agg #[.string a0_0, .string a0_1, .bool a0_2, .int .i64 a0_3, .int .i64 a0_4, .bool a0_5, .string a0_6, .int .i64 a0_7, .int .i64 a0_8, .float .f64 a0_9, .bool a0_10, .bool a0_11, .slice A0_12 l0_12.length c0_12], .int .i64 a1, .int .i64 a2] w fun e w' => e = .returned (.bool r) ∧ Below w.heap.size w w' := by
  have hu46 := Try.underlying46
  have hu44 := Try.underlying44
  have HR0_12 := Aside0.mk hr0_12
  have HC0_12 := Aside0.mk hc0_12
  clear hr0_12 hc0_12
  have HB := Aside0.mk (Below.refl w.heap.size w)
  have H : (if a0_3 = a1 then (if a0_4 = a2 then ((turncockref1_Name.f k a0_0).bind fun t312 => (if t312 = true then (if (a0_1.size : Int) > 128 then (turncockref15_branchFits.j0 k true a0_0 a0_1 a0_2 a0_3 a0_4 a0_5 a0_6 a0_7 a0_8 a0_9 a0_10 a0_11 l0_12) else (if a0_2 = true then (turncockref15_branchFits.j0 k (a0_1.toList != ([] : List UInt8)) a0_0 a0_1 a0_2 a0_3 a0_4 a0_5 a0_6 a0_7 a0_8 a0_9 a0_10 a0_11 l0_12) else (turncockref15_branchFits.j0 k false a0_0 a0_1 a0_2 a0_3 a0_4 a0_5 a0_6 a0_7 a0_8 a0_9 a0_10 a0_11 l0_12))) else (turncockref15_branchFits.j0 k true a0_0 a0_1 a0_2 a0_3 a0_4 a0_5 a0_6 a0_7 a0_8 a0_9 a0_10 a0_11 l0_12))) else (turncockref15_branchFits.j0 k true a0_0 a0_1 a0_2 a0_3 a0_4 a0_5 a0_6 a0_7 a0_8 a0_9 a0_10 a0_11 l0_12)) else (turncockref15_branchFits.j0 k true a0_0 a0_1 a0_2 a0_3 a0_4 a0_5 a0_6 a0_7 a0_8 a0_9 a0_10 a0_11 l0_12)) = some r := h
  clear h
  have HC4 := Aside0.mk H
  clear H
  go_enter Try.func41, Try.ntmps41
  go_upto_region 1 with (first | ((with_reducible refine gate_dst (N := 3) rfl ?_); (try (refine gate_guard (by rfl) ?_; dsimp only)); refine box_event ?hg (N := 3) ?hd (cs := #[.string a0_0, .string a0_1, .bool a0_2, .int .i64 a0_3, .int .i64 a0_4, .bool a0_5, .string a0_6, .int .i64 a0_7, .int .i64 a0_8, .float .f64 a0_9, .bool a0_10, .bool a0_11, .slice A0_12 l0_12.length c0_12]) (t := 46) ?hr ?_; (case hd => rfl); (case hg => rfl); (case hr => first | (go_simp; done) | (go_simp; rfl)); intro gb311 hg w5 hbox hb; have n0_ := Aside0.mk (below_step (by repeat (first | (with_reducible first | exact HB.out | apply below_alloc | apply pw_below_drewN | apply below_drew1) | exact HB.out)) hb); have n1_ := Aside0.mk (hbox); have n2_ := Aside0.mk ((by rw [hg]; exact (below_size (by repeat (first | (with_reducible first | exact HB.out | apply below_alloc | apply pw_below_drewN | apply below_drew1) | exact HB.out))) : w.heap.size ≤ gb311)); have n3_ := Aside0.mk ((by rw [hg]; exact (below_size (by repeat (first | (with_reducible first | exact HB.out | apply below_alloc | apply pw_below_drewN | apply below_drew1) | exact HB.out))) : w.heap.size ≤ gb311)); clear HB; have HB := n0_; have BK311 := n1_; have GW311 := n2_; have GE311 := n3_; clear n0_ n1_ n2_ n3_; clear hb hbox hg))
  (try simp only [Act.put, List.setIfInBounds_toArray, List.set_cons_zero, List.set_cons_succ])
  go_cut [37] (fun v37 wc => ∃ (kq : Nat) (x37_3 : Bool), v37 = .bool x37_3 ∧ Aside0 (turncockref15_branchFits.j0 kq x37_3 a0_0 a0_1 a0_2 a0_3 a0_4 a0_5 a0_6 a0_7 a0_8 a0_9 a0_10 a0_11 l0_12 = some r) ∧ Aside0 (kq ≤ k) ∧ Aside0 (wc.heap[gb311]? = some (.cells #[.string a0_0, .string a0_1, .bool a0_2, .int .i64 a0_3, .int .i64 a0_4, .bool a0_5, .string a0_6, .int .i64 a0_7, .int .i64 a0_8, .float .f64 a0_9, .bool a0_10, .bool a0_11, (.slice A0_12 l0_12.length c0_12)] 46 (0, 0))) ∧ Aside0 (Below w.heap.size w wc))
  case first =>
    have H := HC4.out
    clear HC4
    by_cases c6 : a0_3 = a1
    · rw [if_pos c6] at H
      have c6b0 : (a0_3 == a1) = true := beq_iff_eq.mpr c6
      have c6b1 : (a0_3 != a1) = false := bne_eq_false_iff_eq.mpr c6
      clear c6
      (first | rw [c6b0] | (simp only [i64_w, i32_w]; rw [c6b0]) | skip)
      by_cases c7 : a0_4 = a2
      · rw [if_pos c7] at H
        have c7b0 : (a0_4 == a2) = true := beq_iff_eq.mpr c7
        have c7b1 : (a0_4 != a2) = false := bne_eq_false_iff_eq.mpr c7
        clear c7
        replace H := Option.bind_eq_some_iff.mp H
        obtain ⟨t312, A80, H⟩ := H
        replace H : (if t312 = true then (if (a0_1.size : Int) > 128 then (turncockref15_branchFits.j0 k true a0_0 a0_1 a0_2 a0_3 a0_4 a0_5 a0_6 a0_7 a0_8 a0_9 a0_10 a0_11 l0_12) else (if a0_2 = true then (turncockref15_branchFits.j0 k (a0_1.toList != ([] : List UInt8)) a0_0 a0_1 a0_2 a0_3 a0_4 a0_5 a0_6 a0_7 a0_8 a0_9 a0_10 a0_11 l0_12) else (turncockref15_branchFits.j0 k false a0_0 a0_1 a0_2 a0_3 a0_4 a0_5 a0_6 a0_7 a0_8 a0_9 a0_10 a0_11 l0_12))) else (turncockref15_branchFits.j0 k true a0_0 a0_1 a0_2 a0_3 a0_4 a0_5 a0_6 a0_7 a0_8 a0_9 a0_10 a0_11 l0_12)) = some r := H
        have A8 := Aside0.mk A80
        clear A80
        by_cases c9 : t312 = true
        · subst c9
          have H1 : (if (a0_1.size : Int) > 128 then (turncockref15_branchFits.j0 k true a0_0 a0_1 a0_2 a0_3 a0_4 a0_5 a0_6 a0_7 a0_8 a0_9 a0_10 a0_11 l0_12) else (if a0_2 = true then (turncockref15_branchFits.j0 k (a0_1.toList != ([] : List UInt8)) a0_0 a0_1 a0_2 a0_3 a0_4 a0_5 a0_6 a0_7 a0_8 a0_9 a0_10 a0_11 l0_12) else (turncockref15_branchFits.j0 k false a0_0 a0_1 a0_2 a0_3 a0_4 a0_5 a0_6 a0_7 a0_8 a0_9 a0_10 a0_11 l0_12))) = some r := by rw [if_pos rfl] at H; exact H
          clear H
          have H := H1
          clear H1
          by_cases c10 : (a0_1.size : Int) > 128
          · rw [if_pos c10] at H
            have c10b0 : decide (128 < (a0_1.size : Int)) = true := decide_eq_true c10
            have c10b1 : decide (128 < a0_1.size) = true := decide_eq_true (by omega)
            clear c10
            have H' := Aside0.mk H
            clear H
            have hcz11_0 : w5.cell? ⟨gb311, 0, none⟩ = some (.string a0_0) := (blk_cell BK311.out 0).trans rfl
            have hcz11_1 : w5.cell? ⟨gb311, 1, none⟩ = some (.string a0_1) := (blk_cell BK311.out 1).trans rfl
            have hcz11_2 : w5.cell? ⟨gb311, 2, none⟩ = some (.bool a0_2) := (blk_cell BK311.out 2).trans rfl
            have hcz11_3 : w5.cell? ⟨gb311, 3, none⟩ = some (.int .i64 a0_3) := (blk_cell BK311.out 3).trans rfl
            have hcz11_4 : w5.cell? ⟨gb311, 4, none⟩ = some (.int .i64 a0_4) := (blk_cell BK311.out 4).trans rfl
            have hcz11_5 : w5.cell? ⟨gb311, 5, none⟩ = some (.bool a0_5) := (blk_cell BK311.out 5).trans rfl
            have hcz11_6 : w5.cell? ⟨gb311, 6, none⟩ = some (.string a0_6) := (blk_cell BK311.out 6).trans rfl
            have hcz11_7 : w5.cell? ⟨gb311, 7, none⟩ = some (.int .i64 a0_7) := (blk_cell BK311.out 7).trans rfl
            have hcz11_8 : w5.cell? ⟨gb311, 8, none⟩ = some (.int .i64 a0_8) := (blk_cell BK311.out 8).trans rfl
            have hcz11_9 : w5.cell? ⟨gb311, 9, none⟩ = some (.float .f64 a0_9) := (blk_cell BK311.out 9).trans rfl
            have hcz11_10 : w5.cell? ⟨gb311, 10, none⟩ = some (.bool a0_10) := (blk_cell BK311.out 10).trans rfl
            have hcz11_11 : w5.cell? ⟨gb311, 11, none⟩ = some (.bool a0_11) := (blk_cell BK311.out 11).trans rfl
            have hcz11_12 : w5.cell? ⟨gb311, 12, none⟩ = some (.slice A0_12 l0_12.length c0_12) := (blk_cell BK311.out 12).trans rfl
            have hfz11_0 := blk_frozen BK311.out 0
            have hfz11_1 := blk_frozen BK311.out 1
            have hfz11_2 := blk_frozen BK311.out 2
            have hfz11_3 := blk_frozen BK311.out 3
            have hfz11_4 := blk_frozen BK311.out 4
            have hfz11_5 := blk_frozen BK311.out 5
            have hfz11_6 := blk_frozen BK311.out 6
            have hfz11_7 := blk_frozen BK311.out 7
            have hfz11_8 := blk_frozen BK311.out 8
            have hfz11_9 := blk_frozen BK311.out 9
            have hfz11_10 := blk_frozen BK311.out 10
            have hfz11_11 := blk_frozen BK311.out 11
            have hfz11_12 := blk_frozen BK311.out 12
            go_wp2_with (first | (go_at_call 30; (with_reducible refine (turncockref1_Name.calls k a0_0 true _ A8.out).mono ?_); rintro e w' ⟨rfl, ⟨nd, rfl⟩⟩))
            go_meet
            case rel => exact ⟨_, (true), (by first | rfl | (simp; done) | (simp [*]; done)), H', ⟨by first | omega | exact Nat.le_refl _⟩, ⟨by (with_reducible repeat (first | refine blk_drewN ?_ _ | refine blk_drew ?_ | refine blk_alloc ?_ _)); exact BK311.out⟩, ⟨by repeat (first | (with_reducible first | exact HB.out | apply below_alloc | apply pw_below_drewN | apply below_drew1 | refine below_set ?_ GE311.out) | exact HB.out)⟩⟩
          · rw [if_neg c10] at H
            have c10b0 : decide (128 < (a0_1.size : Int)) = false := decide_eq_false c10
            have c10b1 : decide (128 < a0_1.size) = false := decide_eq_false (by omega)
            clear c10
            by_cases c12 : a0_2 = true
            · subst c12
              have H1 : (turncockref15_branchFits.j0 k (a0_1.toList != ([] : List UInt8)) a0_0 a0_1 true a0_3 a0_4 a0_5 a0_6 a0_7 a0_8 a0_9 a0_10 a0_11 l0_12) = some r := by rw [if_pos rfl] at H; exact H
              clear H
              have H := H1
              clear H1
              have H' := Aside0.mk H
              clear H
              have hcz13_0 : w5.cell? ⟨gb311, 0, none⟩ = some (.string a0_0) := (blk_cell BK311.out 0).trans rfl
              have hcz13_1 : w5.cell? ⟨gb311, 1, none⟩ = some (.string a0_1) := (blk_cell BK311.out 1).trans rfl
              have hcz13_2 : w5.cell? ⟨gb311, 2, none⟩ = some (.bool true) := (blk_cell BK311.out 2).trans rfl
              have hcz13_3 : w5.cell? ⟨gb311, 3, none⟩ = some (.int .i64 a0_3) := (blk_cell BK311.out 3).trans rfl
              have hcz13_4 : w5.cell? ⟨gb311, 4, none⟩ = some (.int .i64 a0_4) := (blk_cell BK311.out 4).trans rfl
              have hcz13_5 : w5.cell? ⟨gb311, 5, none⟩ = some (.bool a0_5) := (blk_cell BK311.out 5).trans rfl
              have hcz13_6 : w5.cell? ⟨gb311, 6, none⟩ = some (.string a0_6) := (blk_cell BK311.out 6).trans rfl
              have hcz13_7 : w5.cell? ⟨gb311, 7, none⟩ = some (.int .i64 a0_7) := (blk_cell BK311.out 7).trans rfl
              have hcz13_8 : w5.cell? ⟨gb311, 8, none⟩ = some (.int .i64 a0_8) := (blk_cell BK311.out 8).trans rfl
              have hcz13_9 : w5.cell? ⟨gb311, 9, none⟩ = some (.float .f64 a0_9) := (blk_cell BK311.out 9).trans rfl
              have hcz13_10 : w5.cell? ⟨gb311, 10, none⟩ = some (.bool a0_10) := (blk_cell BK311.out 10).trans rfl
              have hcz13_11 : w5.cell? ⟨gb311, 11, none⟩ = some (.bool a0_11) := (blk_cell BK311.out 11).trans rfl
              have hcz13_12 : w5.cell? ⟨gb311, 12, none⟩ = some (.slice A0_12 l0_12.length c0_12) := (blk_cell BK311.out 12).trans rfl
              have hfz13_0 := blk_frozen BK311.out 0
              have hfz13_1 := blk_frozen BK311.out 1
              have hfz13_2 := blk_frozen BK311.out 2
              have hfz13_3 := blk_frozen BK311.out 3
              have hfz13_4 := blk_frozen BK311.out 4
              have hfz13_5 := blk_frozen BK311.out 5
              have hfz13_6 := blk_frozen BK311.out 6
              have hfz13_7 := blk_frozen BK311.out 7
              have hfz13_8 := blk_frozen BK311.out 8
              have hfz13_9 := blk_frozen BK311.out 9
              have hfz13_10 := blk_frozen BK311.out 10
              have hfz13_11 := blk_frozen BK311.out 11
              have hfz13_12 := blk_frozen BK311.out 12
              go_wp2_with (first | (go_at_call 30; (with_reducible refine (turncockref1_Name.calls k a0_0 true _ A8.out).mono ?_); rintro e w' ⟨rfl, ⟨nd, rfl⟩⟩))
              go_meet
              case rel => exact ⟨_, ((a0_1.toList != ([] : List UInt8))), (by first | rfl | (simp; done) | (simp [*]; done) | (cases h_ : a0_1.toList <;> first | rfl | (simp; done))), H', ⟨by first | omega | exact Nat.le_refl _⟩, ⟨by (with_reducible repeat (first | refine blk_drewN ?_ _ | refine blk_drew ?_ | refine blk_alloc ?_ _)); exact BK311.out⟩, ⟨by repeat (first | (with_reducible first | exact HB.out | apply below_alloc | apply pw_below_drewN | apply below_drew1 | refine below_set ?_ GE311.out) | exact HB.out)⟩⟩
            · replace c12 := Bool.eq_false_iff.mpr c12
              subst c12
              have H1 : (turncockref15_branchFits.j0 k false a0_0 a0_1 false a0_3 a0_4 a0_5 a0_6 a0_7 a0_8 a0_9 a0_10 a0_11 l0_12) = some r := by rw [if_neg (show ¬ (false = true) by decide)] at H; exact H
              clear H
              have H := H1
              clear H1
              have H' := Aside0.mk H
              clear H
              have hcz14_0 : w5.cell? ⟨gb311, 0, none⟩ = some (.string a0_0) := (blk_cell BK311.out 0).trans rfl
              have hcz14_1 : w5.cell? ⟨gb311, 1, none⟩ = some (.string a0_1) := (blk_cell BK311.out 1).trans rfl
              have hcz14_2 : w5.cell? ⟨gb311, 2, none⟩ = some (.bool false) := (blk_cell BK311.out 2).trans rfl
              have hcz14_3 : w5.cell? ⟨gb311, 3, none⟩ = some (.int .i64 a0_3) := (blk_cell BK311.out 3).trans rfl
              have hcz14_4 : w5.cell? ⟨gb311, 4, none⟩ = some (.int .i64 a0_4) := (blk_cell BK311.out 4).trans rfl
              have hcz14_5 : w5.cell? ⟨gb311, 5, none⟩ = some (.bool a0_5) := (blk_cell BK311.out 5).trans rfl
              have hcz14_6 : w5.cell? ⟨gb311, 6, none⟩ = some (.string a0_6) := (blk_cell BK311.out 6).trans rfl
              have hcz14_7 : w5.cell? ⟨gb311, 7, none⟩ = some (.int .i64 a0_7) := (blk_cell BK311.out 7).trans rfl
              have hcz14_8 : w5.cell? ⟨gb311, 8, none⟩ = some (.int .i64 a0_8) := (blk_cell BK311.out 8).trans rfl
              have hcz14_9 : w5.cell? ⟨gb311, 9, none⟩ = some (.float .f64 a0_9) := (blk_cell BK311.out 9).trans rfl
              have hcz14_10 : w5.cell? ⟨gb311, 10, none⟩ = some (.bool a0_10) := (blk_cell BK311.out 10).trans rfl
              have hcz14_11 : w5.cell? ⟨gb311, 11, none⟩ = some (.bool a0_11) := (blk_cell BK311.out 11).trans rfl
              have hcz14_12 : w5.cell? ⟨gb311, 12, none⟩ = some (.slice A0_12 l0_12.length c0_12) := (blk_cell BK311.out 12).trans rfl
              have hfz14_0 := blk_frozen BK311.out 0
              have hfz14_1 := blk_frozen BK311.out 1
              have hfz14_2 := blk_frozen BK311.out 2
              have hfz14_3 := blk_frozen BK311.out 3
              have hfz14_4 := blk_frozen BK311.out 4
              have hfz14_5 := blk_frozen BK311.out 5
              have hfz14_6 := blk_frozen BK311.out 6
              have hfz14_7 := blk_frozen BK311.out 7
              have hfz14_8 := blk_frozen BK311.out 8
              have hfz14_9 := blk_frozen BK311.out 9
              have hfz14_10 := blk_frozen BK311.out 10
              have hfz14_11 := blk_frozen BK311.out 11
              have hfz14_12 := blk_frozen BK311.out 12
              go_wp2_with (first | (go_at_call 30; (with_reducible refine (turncockref1_Name.calls k a0_0 true _ A8.out).mono ?_); rintro e w' ⟨rfl, ⟨nd, rfl⟩⟩))
              go_meet
              case rel => exact ⟨_, (false), (by first | rfl | (simp; done) | (simp [*]; done)), H', ⟨by first | omega | exact Nat.le_refl _⟩, ⟨by (with_reducible repeat (first | refine blk_drewN ?_ _ | refine blk_drew ?_ | refine blk_alloc ?_ _)); exact BK311.out⟩, ⟨by repeat (first | (with_reducible first | exact HB.out | apply below_alloc | apply pw_below_drewN | apply below_drew1 | refine below_set ?_ GE311.out) | exact HB.out)⟩⟩
        · replace c9 := Bool.eq_false_iff.mpr c9
          subst c9
          have H1 : (turncockref15_branchFits.j0 k true a0_0 a0_1 a0_2 a0_3 a0_4 a0_5 a0_6 a0_7 a0_8 a0_9 a0_10 a0_11 l0_12) = some r := by rw [if_neg (show ¬ (false = true) by decide)] at H; exact H
          clear H
          have H := H1
          clear H1
          have H' := Aside0.mk H
          clear H
          have hcz15_0 : w5.cell? ⟨gb311, 0, none⟩ = some (.string a0_0) := (blk_cell BK311.out 0).trans rfl
          have hcz15_1 : w5.cell? ⟨gb311, 1, none⟩ = some (.string a0_1) := (blk_cell BK311.out 1).trans rfl
          have hcz15_2 : w5.cell? ⟨gb311, 2, none⟩ = some (.bool a0_2) := (blk_cell BK311.out 2).trans rfl
          have hcz15_3 : w5.cell? ⟨gb311, 3, none⟩ = some (.int .i64 a0_3) := (blk_cell BK311.out 3).trans rfl
          have hcz15_4 : w5.cell? ⟨gb311, 4, none⟩ = some (.int .i64 a0_4) := (blk_cell BK311.out 4).trans rfl
          have hcz15_5 : w5.cell? ⟨gb311, 5, none⟩ = some (.bool a0_5) := (blk_cell BK311.out 5).trans rfl
          have hcz15_6 : w5.cell? ⟨gb311, 6, none⟩ = some (.string a0_6) := (blk_cell BK311.out 6).trans rfl
          have hcz15_7 : w5.cell? ⟨gb311, 7, none⟩ = some (.int .i64 a0_7) := (blk_cell BK311.out 7).trans rfl
          have hcz15_8 : w5.cell? ⟨gb311, 8, none⟩ = some (.int .i64 a0_8) := (blk_cell BK311.out 8).trans rfl
          have hcz15_9 : w5.cell? ⟨gb311, 9, none⟩ = some (.float .f64 a0_9) := (blk_cell BK311.out 9).trans rfl
          have hcz15_10 : w5.cell? ⟨gb311, 10, none⟩ = some (.bool a0_10) := (blk_cell BK311.out 10).trans rfl
          have hcz15_11 : w5.cell? ⟨gb311, 11, none⟩ = some (.bool a0_11) := (blk_cell BK311.out 11).trans rfl
          have hcz15_12 : w5.cell? ⟨gb311, 12, none⟩ = some (.slice A0_12 l0_12.length c0_12) := (blk_cell BK311.out 12).trans rfl
          have hfz15_0 := blk_frozen BK311.out 0
          have hfz15_1 := blk_frozen BK311.out 1
          have hfz15_2 := blk_frozen BK311.out 2
          have hfz15_3 := blk_frozen BK311.out 3
          have hfz15_4 := blk_frozen BK311.out 4
          have hfz15_5 := blk_frozen BK311.out 5
          have hfz15_6 := blk_frozen BK311.out 6
          have hfz15_7 := blk_frozen BK311.out 7
          have hfz15_8 := blk_frozen BK311.out 8
          have hfz15_9 := blk_frozen BK311.out 9
          have hfz15_10 := blk_frozen BK311.out 10
          have hfz15_11 := blk_frozen BK311.out 11
          have hfz15_12 := blk_frozen BK311.out 12
          go_wp2_with (first | (go_at_call 30; (with_reducible refine (turncockref1_Name.calls k a0_0 false _ A8.out).mono ?_); rintro e w' ⟨rfl, ⟨nd, rfl⟩⟩))
          go_meet
          case rel => exact ⟨_, (true), (by first | rfl | (simp; done) | (simp [*]; done)), H', ⟨by first | omega | exact Nat.le_refl _⟩, ⟨by (with_reducible repeat (first | refine blk_drewN ?_ _ | refine blk_drew ?_ | refine blk_alloc ?_ _)); exact BK311.out⟩, ⟨by repeat (first | (with_reducible first | exact HB.out | apply below_alloc | apply pw_below_drewN | apply below_drew1 | refine below_set ?_ GE311.out) | exact HB.out)⟩⟩
      · rw [if_neg c7] at H
        have c7b0 : (a0_4 == a2) = false := beq_eq_false_iff_ne.mpr c7
        have c7b1 : (a0_4 != a2) = true := bne_iff_ne.mpr c7
        have H' := Aside0.mk H
        clear H
        have hcz16_0 : w5.cell? ⟨gb311, 0, none⟩ = some (.string a0_0) := (blk_cell BK311.out 0).trans rfl
        have hcz16_1 : w5.cell? ⟨gb311, 1, none⟩ = some (.string a0_1) := (blk_cell BK311.out 1).trans rfl
        have hcz16_2 : w5.cell? ⟨gb311, 2, none⟩ = some (.bool a0_2) := (blk_cell BK311.out 2).trans rfl
        have hcz16_3 : w5.cell? ⟨gb311, 3, none⟩ = some (.int .i64 a0_3) := (blk_cell BK311.out 3).trans rfl
        have hcz16_4 : w5.cell? ⟨gb311, 4, none⟩ = some (.int .i64 a0_4) := (blk_cell BK311.out 4).trans rfl
        have hcz16_5 : w5.cell? ⟨gb311, 5, none⟩ = some (.bool a0_5) := (blk_cell BK311.out 5).trans rfl
        have hcz16_6 : w5.cell? ⟨gb311, 6, none⟩ = some (.string a0_6) := (blk_cell BK311.out 6).trans rfl
        have hcz16_7 : w5.cell? ⟨gb311, 7, none⟩ = some (.int .i64 a0_7) := (blk_cell BK311.out 7).trans rfl
        have hcz16_8 : w5.cell? ⟨gb311, 8, none⟩ = some (.int .i64 a0_8) := (blk_cell BK311.out 8).trans rfl
        have hcz16_9 : w5.cell? ⟨gb311, 9, none⟩ = some (.float .f64 a0_9) := (blk_cell BK311.out 9).trans rfl
        have hcz16_10 : w5.cell? ⟨gb311, 10, none⟩ = some (.bool a0_10) := (blk_cell BK311.out 10).trans rfl
        have hcz16_11 : w5.cell? ⟨gb311, 11, none⟩ = some (.bool a0_11) := (blk_cell BK311.out 11).trans rfl
        have hcz16_12 : w5.cell? ⟨gb311, 12, none⟩ = some (.slice A0_12 l0_12.length c0_12) := (blk_cell BK311.out 12).trans rfl
        have hfz16_0 := blk_frozen BK311.out 0
        have hfz16_1 := blk_frozen BK311.out 1
        have hfz16_2 := blk_frozen BK311.out 2
        have hfz16_3 := blk_frozen BK311.out 3
        have hfz16_4 := blk_frozen BK311.out 4
        have hfz16_5 := blk_frozen BK311.out 5
        have hfz16_6 := blk_frozen BK311.out 6
        have hfz16_7 := blk_frozen BK311.out 7
        have hfz16_8 := blk_frozen BK311.out 8
        have hfz16_9 := blk_frozen BK311.out 9
        have hfz16_10 := blk_frozen BK311.out 10
        have hfz16_11 := blk_frozen BK311.out 11
        have hfz16_12 := blk_frozen BK311.out 12
        go_wp2
        go_meet
        case rel => exact ⟨_, (true), (by first | rfl | (simp; done) | (simp [*]; done)), H', ⟨by first | omega | exact Nat.le_refl _⟩, ⟨by (with_reducible repeat (first | refine blk_drewN ?_ _ | refine blk_drew ?_ | refine blk_alloc ?_ _)); exact BK311.out⟩, ⟨by repeat (first | (with_reducible first | exact HB.out | apply below_alloc | apply pw_below_drewN | apply below_drew1 | refine below_set ?_ GE311.out) | exact HB.out)⟩⟩
    · rw [if_neg c6] at H
      have c6b0 : (a0_3 == a1) = false := beq_eq_false_iff_ne.mpr c6
      have c6b1 : (a0_3 != a1) = true := bne_iff_ne.mpr c6
      (first | rw [c6b0] | (simp only [i64_w, i32_w]; rw [c6b0]) | skip)
      have H' := Aside0.mk H
      clear H
      have hcz17_0 : w5.cell? ⟨gb311, 0, none⟩ = some (.string a0_0) := (blk_cell BK311.out 0).trans rfl
      have hcz17_1 : w5.cell? ⟨gb311, 1, none⟩ = some (.string a0_1) := (blk_cell BK311.out 1).trans rfl
      have hcz17_2 : w5.cell? ⟨gb311, 2, none⟩ = some (.bool a0_2) := (blk_cell BK311.out 2).trans rfl
      have hcz17_3 : w5.cell? ⟨gb311, 3, none⟩ = some (.int .i64 a0_3) := (blk_cell BK311.out 3).trans rfl
      have hcz17_4 : w5.cell? ⟨gb311, 4, none⟩ = some (.int .i64 a0_4) := (blk_cell BK311.out 4).trans rfl
      have hcz17_5 : w5.cell? ⟨gb311, 5, none⟩ = some (.bool a0_5) := (blk_cell BK311.out 5).trans rfl
      have hcz17_6 : w5.cell? ⟨gb311, 6, none⟩ = some (.string a0_6) := (blk_cell BK311.out 6).trans rfl
      have hcz17_7 : w5.cell? ⟨gb311, 7, none⟩ = some (.int .i64 a0_7) := (blk_cell BK311.out 7).trans rfl
      have hcz17_8 : w5.cell? ⟨gb311, 8, none⟩ = some (.int .i64 a0_8) := (blk_cell BK311.out 8).trans rfl
      have hcz17_9 : w5.cell? ⟨gb311, 9, none⟩ = some (.float .f64 a0_9) := (blk_cell BK311.out 9).trans rfl
      have hcz17_10 : w5.cell? ⟨gb311, 10, none⟩ = some (.bool a0_10) := (blk_cell BK311.out 10).trans rfl
      have hcz17_11 : w5.cell? ⟨gb311, 11, none⟩ = some (.bool a0_11) := (blk_cell BK311.out 11).trans rfl
      have hcz17_12 : w5.cell? ⟨gb311, 12, none⟩ = some (.slice A0_12 l0_12.length c0_12) := (blk_cell BK311.out 12).trans rfl
      have hfz17_0 := blk_frozen BK311.out 0
      have hfz17_1 := blk_frozen BK311.out 1
      have hfz17_2 := blk_frozen BK311.out 2
      have hfz17_3 := blk_frozen BK311.out 3
      have hfz17_4 := blk_frozen BK311.out 4
      have hfz17_5 := blk_frozen BK311.out 5
      have hfz17_6 := blk_frozen BK311.out 6
      have hfz17_7 := blk_frozen BK311.out 7
      have hfz17_8 := blk_frozen BK311.out 8
      have hfz17_9 := blk_frozen BK311.out 9
      have hfz17_10 := blk_frozen BK311.out 10
      have hfz17_11 := blk_frozen BK311.out 11
      have hfz17_12 := blk_frozen BK311.out 12
      go_wp2
      go_meet
      case rel => exact ⟨_, (true), (by first | rfl | (simp; done) | (simp [*]; done)), H', ⟨by first | omega | exact Nat.le_refl _⟩, ⟨by (with_reducible repeat (first | refine blk_drewN ?_ _ | refine blk_drew ?_ | refine blk_alloc ?_ _)); exact BK311.out⟩, ⟨by repeat (first | (with_reducible first | exact HB.out | apply below_alloc | apply pw_below_drewN | apply below_drew1 | refine below_set ?_ GE311.out) | exact HB.out)⟩⟩
  case rest =>
    clear HC4
    try clear c1
    try clear p2
    try clear c4
    try clear c6
    try clear c6b0
    try clear c6b1
    try clear c7
    try clear c7b0
    try clear c7b1
    try clear c9
    try clear c10
    try clear c10b0
    try clear c10b1
    try clear c12
    try clear hcz11_0
    try clear hcz11_1
    try clear hcz11_10
    try clear hcz11_11
    try clear hcz11_12
    try clear hcz11_2
    try clear hcz11_3
    try clear hcz11_4
    try clear hcz11_5
    try clear hcz11_6
    try clear hcz11_7
    try clear hcz11_8
    try clear hcz11_9
    try clear hcz13_0
    try clear hcz13_1
    try clear hcz13_10
    try clear hcz13_11
    try clear hcz13_12
    try clear hcz13_2
    try clear hcz13_3
    try clear hcz13_4
    try clear hcz13_5
    try clear hcz13_6
    try clear hcz13_7
    try clear hcz13_8
    try clear hcz13_9
    try clear hcz14_0
    try clear hcz14_1
    try clear hcz14_10
    try clear hcz14_11
    try clear hcz14_12
    try clear hcz14_2
    try clear hcz14_3
    try clear hcz14_4
    try clear hcz14_5
    try clear hcz14_6
    try clear hcz14_7
    try clear hcz14_8
    try clear hcz14_9
    try clear hcz15_0
    try clear hcz15_1
    try clear hcz15_10
    try clear hcz15_11
    try clear hcz15_12
    try clear hcz15_2
    try clear hcz15_3
    try clear hcz15_4
    try clear hcz15_5
    try clear hcz15_6
    try clear hcz15_7
    try clear hcz15_8
    try clear hcz15_9
    try clear hcz16_0
    try clear hcz16_1
    try clear hcz16_10
    try clear hcz16_11
    try clear hcz16_12
    try clear hcz16_2
    try clear hcz16_3
    try clear hcz16_4
    try clear hcz16_5
    try clear hcz16_6
    try clear hcz16_7
    try clear hcz16_8
    try clear hcz16_9
    try clear hcz17_0
    try clear hcz17_1
    try clear hcz17_10
    try clear hcz17_11
    try clear hcz17_12
    try clear hcz17_2
    try clear hcz17_3
    try clear hcz17_4
    try clear hcz17_5
    try clear hcz17_6
    try clear hcz17_7
    try clear hcz17_8
    try clear hcz17_9
    try clear hfz11_0
    try clear hfz11_1
    try clear hfz11_10
    try clear hfz11_11
    try clear hfz11_12
    try clear hfz11_2
    try clear hfz11_3
    try clear hfz11_4
    try clear hfz11_5
    try clear hfz11_6
    try clear hfz11_7
    try clear hfz11_8
    try clear hfz11_9
    try clear hfz13_0
    try clear hfz13_1
    try clear hfz13_10
    try clear hfz13_11
    try clear hfz13_12
    try clear hfz13_2
    try clear hfz13_3
    try clear hfz13_4
    try clear hfz13_5
    try clear hfz13_6
    try clear hfz13_7
    try clear hfz13_8
    try clear hfz13_9
    try clear hfz14_0
    try clear hfz14_1
    try clear hfz14_10
    try clear hfz14_11
    try clear hfz14_12
    try clear hfz14_2
    try clear hfz14_3
    try clear hfz14_4
    try clear hfz14_5
    try clear hfz14_6
    try clear hfz14_7
    try clear hfz14_8
    try clear hfz14_9
    try clear hfz15_0
    try clear hfz15_1
    try clear hfz15_10
    try clear hfz15_11
    try clear hfz15_12
    try clear hfz15_2
    try clear hfz15_3
    try clear hfz15_4
    try clear hfz15_5
    try clear hfz15_6
    try clear hfz15_7
    try clear hfz15_8
    try clear hfz15_9
    try clear hfz16_0
    try clear hfz16_1
    try clear hfz16_10
    try clear hfz16_11
    try clear hfz16_12
    try clear hfz16_2
    try clear hfz16_3
    try clear hfz16_4
    try clear hfz16_5
    try clear hfz16_6
    try clear hfz16_7
    try clear hfz16_8
    try clear hfz16_9
    try clear hfz17_0
    try clear hfz17_1
    try clear hfz17_10
    try clear hfz17_11
    try clear hfz17_12
    try clear hfz17_2
    try clear hfz17_3
    try clear hfz17_4
    try clear hfz17_5
    try clear hfz17_6
    try clear hfz17_7
    try clear hfz17_8
    try clear hfz17_9
    obtain ⟨kq, x37_3, rfl, HA, HJ3, BK311, HB⟩ := hcut
    cases kq with
    | zero => exact absurd HA.out (by simp [turncockref15_branchFits.j0])
    | succ kj3 =>
      have H := HA.out
      clear HA
      simp only [turncockref15_branchFits.j0] at H
      by_cases c18 : x37_3 = true
      · subst c18
        have H1 : (some false) = some r := by rw [if_pos rfl] at H; exact H
        clear H
        have H := H1
        clear H1
        obtain rfl := Option.some.inj H
        go_wp2
        go_ret
        exact ⟨by first | rfl | (simp [errW_none, errW_some] <;> rfl) | (simp [*, errW_none, errW_some] <;> rfl), by repeat (first | (with_reducible first | exact HB.out | apply below_alloc | apply pw_below_drewN | apply below_drew1 | refine below_set ?_ GE311.out) | exact HB.out)⟩
      · replace c18 := Bool.eq_false_iff.mpr c18
        subst c18
        have H1 : (if a0_5 = true then ((turncockref15_CheckRule.f kj3 a0_6 a0_7 a0_8 a0_9 a0_10 a0_11).bind fun t313 => (some t313)) else ((turncockref15_SameRule.f kj3 a0_6 a0_7 a0_8 a0_9 a0_10 a0_11 (⟨#[]⟩ : ByteArray) 0 0 0 false false).bind fun t314 => (some t314))) = some r := by rw [if_neg (show ¬ (false = true) by decide)] at H; exact H
        clear H
        have H := H1
        clear H1
        by_cases c19 : a0_5 = true
        · subst c19
          have H1 : ((turncockref15_CheckRule.f kj3 a0_6 a0_7 a0_8 a0_9 a0_10 a0_11).bind fun t313 => (some t313)) = some r := by rw [if_pos rfl] at H; exact H
          clear H
          have H := H1
          clear H1
          replace H := Option.bind_eq_some_iff.mp H
          obtain ⟨t313, A200, H⟩ := H
          replace H : (some t313) = some r := H
          have A20 := Aside0.mk A200
          clear A200
          obtain rfl := Option.some.inj H
          have hcz21_0 : wc.cell? ⟨gb311, 0, none⟩ = some (.string a0_0) := (blk_cell BK311.out 0).trans rfl
          have hcz21_1 : wc.cell? ⟨gb311, 1, none⟩ = some (.string a0_1) := (blk_cell BK311.out 1).trans rfl
          have hcz21_2 : wc.cell? ⟨gb311, 2, none⟩ = some (.bool a0_2) := (blk_cell BK311.out 2).trans rfl
          have hcz21_3 : wc.cell? ⟨gb311, 3, none⟩ = some (.int .i64 a0_3) := (blk_cell BK311.out 3).trans rfl
          have hcz21_4 : wc.cell? ⟨gb311, 4, none⟩ = some (.int .i64 a0_4) := (blk_cell BK311.out 4).trans rfl
          have hcz21_5 : wc.cell? ⟨gb311, 5, none⟩ = some (.bool true) := (blk_cell BK311.out 5).trans rfl
          have hcz21_6 : wc.cell? ⟨gb311, 6, none⟩ = some (.string a0_6) := (blk_cell BK311.out 6).trans rfl
          have hcz21_7 : wc.cell? ⟨gb311, 7, none⟩ = some (.int .i64 a0_7) := (blk_cell BK311.out 7).trans rfl
          have hcz21_8 : wc.cell? ⟨gb311, 8, none⟩ = some (.int .i64 a0_8) := (blk_cell BK311.out 8).trans rfl
          have hcz21_9 : wc.cell? ⟨gb311, 9, none⟩ = some (.float .f64 a0_9) := (blk_cell BK311.out 9).trans rfl
          have hcz21_10 : wc.cell? ⟨gb311, 10, none⟩ = some (.bool a0_10) := (blk_cell BK311.out 10).trans rfl
          have hcz21_11 : wc.cell? ⟨gb311, 11, none⟩ = some (.bool a0_11) := (blk_cell BK311.out 11).trans rfl
          have hcz21_12 : wc.cell? ⟨gb311, 12, none⟩ = some (.slice A0_12 l0_12.length c0_12) := (blk_cell BK311.out 12).trans rfl
          have hfz21_0 := blk_frozen BK311.out 0
          have hfz21_1 := blk_frozen BK311.out 1
          have hfz21_2 := blk_frozen BK311.out 2
          have hfz21_3 := blk_frozen BK311.out 3
          have hfz21_4 := blk_frozen BK311.out 4
          have hfz21_5 := blk_frozen BK311.out 5
          have hfz21_6 := blk_frozen BK311.out 6
          have hfz21_7 := blk_frozen BK311.out 7
          have hfz21_8 := blk_frozen BK311.out 8
          have hfz21_9 := blk_frozen BK311.out 9
          have hfz21_10 := blk_frozen BK311.out 10
          have hfz21_11 := blk_frozen BK311.out 11
          have hfz21_12 := blk_frozen BK311.out 12
          go_wp2_with (first | ((with_reducible refine gate_callee (f := 49) rfl ?_); refine goesL_ (some 42) rfl rfl Try.func49 (by kernel_rfl) rfl #[.agg #[.string a0_6, .int .i64 a0_7, .int .i64 a0_8, .float .f64 a0_9, .bool a0_10, .bool a0_11]] rfl (by (try simp only [List.map_toArray, List.map_cons, List.map_nil]); first | done | rfl | (simp only [List.length_drop, List.length_take]; rfl)) ?_; (with_reducible refine (turncockref15_CheckRule.calls kj3 a0_6 a0_7 a0_8 a0_9 a0_10 a0_11 t313 _ A20.out).mono ?_); rintro e w22 ⟨rfl, hb⟩; refine ⟨_, rfl, ?_⟩; have n0_ := Aside0.mk (blk_below (g := gb311) (o := .cells #[.string a0_0, .string a0_1, .bool a0_2, .int .i64 a0_3, .int .i64 a0_4, .bool true, .string a0_6, .int .i64 a0_7, .int .i64 a0_8, .float .f64 a0_9, .bool a0_10, .bool a0_11, .slice A0_12 l0_12.length c0_12] 46 (0, 0)) (by (with_reducible repeat (first | refine blk_drewN ?_ _ | refine blk_drew ?_ | refine blk_alloc ?_ _)); exact BK311.out) hb); have n1_ := Aside0.mk (below_step (by repeat (first | (with_reducible first | exact HB.out | apply below_alloc | apply pw_below_drewN | apply below_drew1 | refine below_set ?_ GE311.out) | exact HB.out)) hb); clear BK311; clear HB; have BK311 := n0_; have HB := n1_; clear n0_ n1_; (try clear hb); (try clear hb2); (try clear hk); (try clear hi)))
          go_ret
          exact ⟨by first | rfl | (simp [errW_none, errW_some] <;> rfl) | (simp [*, errW_none, errW_some] <;> rfl), by repeat (first | (with_reducible first | exact HB.out | apply below_alloc | apply pw_below_drewN | apply below_drew1 | refine below_set ?_ GE311.out) | exact HB.out)⟩
        · replace c19 := Bool.eq_false_iff.mpr c19
          subst c19
          have H1 : ((turncockref15_SameRule.f kj3 a0_6 a0_7 a0_8 a0_9 a0_10 a0_11 (⟨#[]⟩ : ByteArray) 0 0 0 false false).bind fun t314 => (some t314)) = some r := by rw [if_neg (show ¬ (false = true) by decide)] at H; exact H
          clear H
          have H := H1
          clear H1
          replace H := Option.bind_eq_some_iff.mp H
          obtain ⟨t314, A230, H⟩ := H
          replace H : (some t314) = some r := H
          have A23 := Aside0.mk A230
          clear A230
          obtain rfl := Option.some.inj H
          have hcz24_0 : wc.cell? ⟨gb311, 0, none⟩ = some (.string a0_0) := (blk_cell BK311.out 0).trans rfl
          have hcz24_1 : wc.cell? ⟨gb311, 1, none⟩ = some (.string a0_1) := (blk_cell BK311.out 1).trans rfl
          have hcz24_2 : wc.cell? ⟨gb311, 2, none⟩ = some (.bool a0_2) := (blk_cell BK311.out 2).trans rfl
          have hcz24_3 : wc.cell? ⟨gb311, 3, none⟩ = some (.int .i64 a0_3) := (blk_cell BK311.out 3).trans rfl
          have hcz24_4 : wc.cell? ⟨gb311, 4, none⟩ = some (.int .i64 a0_4) := (blk_cell BK311.out 4).trans rfl
          have hcz24_5 : wc.cell? ⟨gb311, 5, none⟩ = some (.bool false) := (blk_cell BK311.out 5).trans rfl
          have hcz24_6 : wc.cell? ⟨gb311, 6, none⟩ = some (.string a0_6) := (blk_cell BK311.out 6).trans rfl
          have hcz24_7 : wc.cell? ⟨gb311, 7, none⟩ = some (.int .i64 a0_7) := (blk_cell BK311.out 7).trans rfl
          have hcz24_8 : wc.cell? ⟨gb311, 8, none⟩ = some (.int .i64 a0_8) := (blk_cell BK311.out 8).trans rfl
          have hcz24_9 : wc.cell? ⟨gb311, 9, none⟩ = some (.float .f64 a0_9) := (blk_cell BK311.out 9).trans rfl
          have hcz24_10 : wc.cell? ⟨gb311, 10, none⟩ = some (.bool a0_10) := (blk_cell BK311.out 10).trans rfl
          have hcz24_11 : wc.cell? ⟨gb311, 11, none⟩ = some (.bool a0_11) := (blk_cell BK311.out 11).trans rfl
          have hcz24_12 : wc.cell? ⟨gb311, 12, none⟩ = some (.slice A0_12 l0_12.length c0_12) := (blk_cell BK311.out 12).trans rfl
          have hfz24_0 := blk_frozen BK311.out 0
          have hfz24_1 := blk_frozen BK311.out 1
          have hfz24_2 := blk_frozen BK311.out 2
          have hfz24_3 := blk_frozen BK311.out 3
          have hfz24_4 := blk_frozen BK311.out 4
          have hfz24_5 := blk_frozen BK311.out 5
          have hfz24_6 := blk_frozen BK311.out 6
          have hfz24_7 := blk_frozen BK311.out 7
          have hfz24_8 := blk_frozen BK311.out 8
          have hfz24_9 := blk_frozen BK311.out 9
          have hfz24_10 := blk_frozen BK311.out 10
          have hfz24_11 := blk_frozen BK311.out 11
          have hfz24_12 := blk_frozen BK311.out 12
          go_wp2_with (first | ((with_reducible refine gate_callee (f := 50) rfl ?_); refine goesL_ (some 46) rfl rfl Try.func50 (by kernel_rfl) rfl #[.agg #[.string a0_6, .int .i64 a0_7, .int .i64 a0_8, .float .f64 a0_9, .bool a0_10, .bool a0_11], .agg #[.string (⟨#[]⟩ : ByteArray), .int .i64 0, .int .i64 0, .float .f64 0, .bool false, .bool false]] rfl (by (try simp only [List.map_toArray, List.map_cons, List.map_nil]); first | done | rfl | (simp only [List.length_drop, List.length_take]; rfl)) ?_; (with_reducible refine (turncockref15_SameRule.calls kj3 a0_6 a0_7 a0_8 a0_9 a0_10 a0_11 (⟨#[]⟩ : ByteArray) 0 0 0 false false t314 _ A23.out).mono ?_); rintro e w25 ⟨rfl, hb⟩; refine ⟨_, rfl, ?_⟩; have n0_ := Aside0.mk (blk_below (g := gb311) (o := .cells #[.string a0_0, .string a0_1, .bool a0_2, .int .i64 a0_3, .int .i64 a0_4, .bool false, .string a0_6, .int .i64 a0_7, .int .i64 a0_8, .float .f64 a0_9, .bool a0_10, .bool a0_11, .slice A0_12 l0_12.length c0_12] 46 (0, 0)) (by (with_reducible repeat (first | refine blk_drewN ?_ _ | refine blk_drew ?_ | refine blk_alloc ?_ _)); exact BK311.out) hb); have n1_ := Aside0.mk (below_step (by repeat (first | (with_reducible first | exact HB.out | apply below_alloc | apply pw_below_drewN | apply below_drew1 | refine below_set ?_ GE311.out) | exact HB.out)) hb); clear BK311; clear HB; have BK311 := n0_; have HB := n1_; clear n0_ n1_; (try clear hb); (try clear hb2); (try clear hk); (try clear hi)))
          go_ret
          exact ⟨by first | rfl | (simp [errW_none, errW_some] <;> rfl) | (simp [*, errW_none, errW_some] <;> rfl), by repeat (first | (with_reducible first | exact HB.out | apply below_alloc | apply pw_below_drewN | apply below_drew1 | refine below_set ?_ GE311.out) | exact HB.out)⟩
def config_twin.f (a0_0 : ByteArray) (a0_1 : ByteArray) (a0_2 : Bool) (a0_3 : Int) (a0_4 : Int) (a0_5 : Bool) (a0_6 : ByteArray) (a0_7 : Int) (a0_8 : Int) (a0_9 : Nat) (a0_10 : Bool) (a0_11 : Bool) (l0_12 : List Int) (a1_0 : ByteArray) (a1_1 : ByteArray) (a1_2 : Bool) (a1_3 : Int) (a1_4 : Int) (a1_5 : Bool) (a1_6 : ByteArray) (a1_7 : Int) (a1_8 : Int) (a1_9 : Nat) (a1_10 : Bool) (a1_11 : Bool) (l1_12 : List Int) : Option (Bool) := if a0_0.toList = a1_0.toList then (if a0_1.toList = a1_1.toList then (some (a0_2 == a1_2)) else (some false)) else (some false)
set_option maxHeartbeats 8000000 in
set_option maxRecDepth 100000 in
theorem config_twin.calls (a0_0 : ByteArray) (a0_1 : ByteArray) (a0_2 : Bool) (a0_3 : Int) (a0_4 : Int) (a0_5 : Bool) (a0_6 : ByteArray) (a0_7 : Int) (a0_8 : Int) (a0_9 : Nat) (a0_10 : Bool) (a0_11 : Bool) (A0_12 : Option Addr) (c0_12 : Nat) (l0_12 : List Int) (a1_0 : ByteArray) (a1_1 : ByteArray) (a1_2 : Bool) (a1_3 : Int) (a1_4 : Int) (a1_5 : Bool) (a1_6 : ByteArray) (a1_7 : Int) (a1_8 : Int) (a1_9 : Nat) (a1_10 : Bool) (a1_11 : Bool) (A1_12 : Option Addr) (c1_12 : Nat) (l1_12 : List Int) (r : Bool) (w : World) (hr0_12 : Kd.C (Kd.int .i64) w A0_12 l0_12.length l0_12) (hc0_12 : l0_12.length ≤ c0_12) (hr1_12 : Kd.C (Kd.int .i64) w A1_12 l1_12.length l1_12) (hc1_12 : l1_12.length ≤ c1_12) (h : config_twin.f a0_0 a0_1 a0_2 a0_3 a0_4 a0_5 a0_6 a0_7 a0_8 a0_9 a0_10 a0_11 l0_12 a1_0 a1_1 a1_2 a1_3 a1_4 a1_5 a1_6 a1_7 a1_8 a1_9 a1_10 a1_11 l1_12 = some r) :
    Calls Try.prog 46 #[.agg #[.string a0_0, .string a0_1, .bool a0_2, .int .i64 a0_3, .int .i64 a0_4, .bool a0_5, .string a0_6, .int .i64 a0_7, .int .i64 a0_8, .float .f64 a0_9, .bool a0_10, .bool a0_11, .slice A0_12 l0_12.length c0_12], .agg #[.string a1_0, .string a1_1, .bool a1_2, .int .i64 a1_3, .int .i64 a1_4, .bool a1_5, .string a1_6, .int .i64 a1_7, .int .i64 a1_8, .float .f64 a1_9, .bool a1_10, .bool a1_11, .slice A1_12 l1_12.length c1_12]] w fun e w' => e = .returned (.bool r) ∧ Below w.heap.size w w' := by
  have hu46 := Try.underlying46
  have HR0_12 := Aside0.mk hr0_12
  have HC0_12 := Aside0.mk hc0_12
  clear hr0_12 hc0_12
  have HR1_12 := Aside0.mk hr1_12
  have HC1_12 := Aside0.mk hc1_12
  clear hr1_12 hc1_12
  have HB := Aside0.mk (Below.refl w.heap.size w)
  have H : (if a0_0.toList = a1_0.toList then (if a0_1.toList = a1_1.toList then (some (a0_2 == a1_2)) else (some false)) else (some false)) = some r := h
  clear h
  by_cases c3 : a0_0.toList = a1_0.toList
  · rw [if_pos c3] at H
    have c3b0 : (a0_0.toList == a1_0.toList) = true := beq_iff_eq.mpr c3
    have c3b1 : (a0_0.toList != a1_0.toList) = false := bne_eq_false_iff_eq.mpr c3
    clear c3
    by_cases c4 : a0_1.toList = a1_1.toList
    · rw [if_pos c4] at H
      have c4b0 : (a0_1.toList == a1_1.toList) = true := beq_iff_eq.mpr c4
      have c4b1 : (a0_1.toList != a1_1.toList) = false := bne_eq_false_iff_eq.mpr c4
      clear c4
      obtain rfl := Option.some.inj H
      go_enter Try.func46, Try.ntmps46
      go_wp2_with (first | ((with_reducible refine gate_dst (N := 2) rfl ?_); refine box_event ?hg (N := 2) ?hd (cs := #[.string a0_0, .string a0_1, .bool a0_2, .int .i64 a0_3, .int .i64 a0_4, .bool a0_5, .string a0_6, .int .i64 a0_7, .int .i64 a0_8, .float .f64 a0_9, .bool a0_10, .bool a0_11, .slice A0_12 l0_12.length c0_12]) (t := 46) ?hr ?_; (case hd => rfl); (case hg => rfl); (case hr => first | (go_simp; done) | (go_simp; rfl)); intro gb315 hg w5 hbox hb; have n0_ := Aside0.mk (below_step (by repeat (first | (with_reducible first | exact HB.out | apply below_alloc | apply pw_below_drewN | apply below_drew1) | exact HB.out)) hb); have n1_ := Aside0.mk (hbox); have n2_ := Aside0.mk ((by rw [hg]; exact (below_size (by repeat (first | (with_reducible first | exact HB.out | apply below_alloc | apply pw_below_drewN | apply below_drew1) | exact HB.out))) : w.heap.size ≤ gb315)); have n3_ := Aside0.mk ((by rw [hg]; exact (below_size (by repeat (first | (with_reducible first | exact HB.out | apply below_alloc | apply pw_below_drewN | apply below_drew1) | exact HB.out))) : w.heap.size ≤ gb315)); clear HB; have HB := n0_; have BK315 := n1_; have GW315 := n2_; have GE315 := n3_; clear n0_ n1_ n2_ n3_; clear hb hbox hg) | ((with_reducible refine gate_dst (N := 3) rfl ?_); refine box_event ?hg (N := 3) ?hd (cs := #[.string a1_0, .string a1_1, .bool a1_2, .int .i64 a1_3, .int .i64 a1_4, .bool a1_5, .string a1_6, .int .i64 a1_7, .int .i64 a1_8, .float .f64 a1_9, .bool a1_10, .bool a1_11, .slice A1_12 l1_12.length c1_12]) (t := 46) ?hr ?_; (case hd => rfl); (case hg => rfl); (case hr => first | (go_simp; done) | (go_simp; rfl)); intro gb316 hg w6 hbox hb; have n0_ := Aside0.mk (blk_below (g := gb315) (o := .cells #[.string a0_0, .string a0_1, .bool a0_2, .int .i64 a0_3, .int .i64 a0_4, .bool a0_5, .string a0_6, .int .i64 a0_7, .int .i64 a0_8, .float .f64 a0_9, .bool a0_10, .bool a0_11, .slice A0_12 l0_12.length c0_12] 46 (0, 0)) (by (with_reducible repeat (first | refine blk_drewN ?_ _ | refine blk_drew ?_ | refine blk_alloc ?_ _)); exact BK315.out) hb); have n1_ := Aside0.mk (below_step (by repeat (first | (with_reducible first | exact HB.out | apply below_alloc | apply pw_below_drewN | apply below_drew1 | refine below_set ?_ GE315.out) | exact HB.out)) hb); have n2_ := Aside0.mk (hbox); have n3_ := Aside0.mk ((by rw [hg]; exact (below_size (by repeat (first | (with_reducible first | exact HB.out | apply below_alloc | apply pw_below_drewN | apply below_drew1 | refine below_set ?_ GE315.out) | exact HB.out))) : w.heap.size ≤ gb316)); have n4_ := Aside0.mk ((by rw [hg]; exact (below_size (by repeat (first | (with_reducible first | exact HB.out | apply below_alloc | apply pw_below_drewN | apply below_drew1 | refine below_set ?_ GE315.out) | exact HB.out))) : w.heap.size ≤ gb316)); have n5_ := Aside0.mk ((by rw [hg]; exact Nat.ne_of_lt (blk_lt (g := gb315) (o := .cells #[.string a0_0, .string a0_1, .bool a0_2, .int .i64 a0_3, .int .i64 a0_4, .bool a0_5, .string a0_6, .int .i64 a0_7, .int .i64 a0_8, .float .f64 a0_9, .bool a0_10, .bool a0_11, .slice A0_12 l0_12.length c0_12] 46 (0, 0)) (by (with_reducible repeat (first | refine blk_drewN ?_ _ | refine blk_drew ?_ | refine blk_alloc ?_ _)); exact BK315.out)) : gb315 ≠ gb316)); have n6_ := Aside0.mk ((by rw [hg]; exact Nat.ne_of_gt (blk_lt (g := gb315) (o := .cells #[.string a0_0, .string a0_1, .bool a0_2, .int .i64 a0_3, .int .i64 a0_4, .bool a0_5, .string a0_6, .int .i64 a0_7, .int .i64 a0_8, .float .f64 a0_9, .bool a0_10, .bool a0_11, .slice A0_12 l0_12.length c0_12] 46 (0, 0)) (by (with_reducible repeat (first | refine blk_drewN ?_ _ | refine blk_drew ?_ | refine blk_alloc ?_ _)); exact BK315.out)) : gb316 ≠ gb315)); clear BK315; clear HB; have BK315 := n0_; have HB := n1_; have BK316 := n2_; have GW316 := n3_; have GE316 := n4_; have NB315_316 := n5_; have NB316_315 := n6_; clear n0_ n1_ n2_ n3_ n4_ n5_ n6_; clear hb hbox hg; have hnb7 := NB315_316.out; have hnc7 := NB316_315.out; have hcz8_0 : w6.cell? ⟨gb315, 0, none⟩ = some (.string a0_0) := (blk_cell BK315.out 0).trans rfl; have hcz8_1 : w6.cell? ⟨gb315, 1, none⟩ = some (.string a0_1) := (blk_cell BK315.out 1).trans rfl; have hcz8_2 : w6.cell? ⟨gb315, 2, none⟩ = some (.bool a0_2) := (blk_cell BK315.out 2).trans rfl; have hcz8_3 : w6.cell? ⟨gb315, 3, none⟩ = some (.int .i64 a0_3) := (blk_cell BK315.out 3).trans rfl; have hcz8_4 : w6.cell? ⟨gb315, 4, none⟩ = some (.int .i64 a0_4) := (blk_cell BK315.out 4).trans rfl; have hcz8_5 : w6.cell? ⟨gb315, 5, none⟩ = some (.bool a0_5) := (blk_cell BK315.out 5).trans rfl; have hcz8_6 : w6.cell? ⟨gb315, 6, none⟩ = some (.string a0_6) := (blk_cell BK315.out 6).trans rfl; have hcz8_7 : w6.cell? ⟨gb315, 7, none⟩ = some (.int .i64 a0_7) := (blk_cell BK315.out 7).trans rfl; have hcz8_8 : w6.cell? ⟨gb315, 8, none⟩ = some (.int .i64 a0_8) := (blk_cell BK315.out 8).trans rfl; have hcz8_9 : w6.cell? ⟨gb315, 9, none⟩ = some (.float .f64 a0_9) := (blk_cell BK315.out 9).trans rfl; have hcz8_10 : w6.cell? ⟨gb315, 10, none⟩ = some (.bool a0_10) := (blk_cell BK315.out 10).trans rfl; have hcz8_11 : w6.cell? ⟨gb315, 11, none⟩ = some (.bool a0_11) := (blk_cell BK315.out 11).trans rfl; have hcz8_12 : w6.cell? ⟨gb315, 12, none⟩ = some (.slice A0_12 l0_12.length c0_12) := (blk_cell BK315.out 12).trans rfl; have hfz8_0 := blk_frozen BK315.out 0; have hfz8_1 := blk_frozen BK315.out 1; have hfz8_2 := blk_frozen BK315.out 2; have hfz8_3 := blk_frozen BK315.out 3; have hfz8_4 := blk_frozen BK315.out 4; have hfz8_5 := blk_frozen BK315.out 5; have hfz8_6 := blk_frozen BK315.out 6; have hfz8_7 := blk_frozen BK315.out 7; have hfz8_8 := blk_frozen BK315.out 8; have hfz8_9 := blk_frozen BK315.out 9; have hfz8_10 := blk_frozen BK315.out 10; have hfz8_11 := blk_frozen BK315.out 11; have hfz8_12 := blk_frozen BK315.out 12; have hcz9_0 : w6.cell? ⟨gb316, 0, none⟩ = some (.string a1_0) := (blk_cell BK316.out 0).trans rfl; have hcz9_1 : w6.cell? ⟨gb316, 1, none⟩ = some (.string a1_1) := (blk_cell BK316.out 1).trans rfl; have hcz9_2 : w6.cell? ⟨gb316, 2, none⟩ = some (.bool a1_2) := (blk_cell BK316.out 2).trans rfl; have hcz9_3 : w6.cell? ⟨gb316, 3, none⟩ = some (.int .i64 a1_3) := (blk_cell BK316.out 3).trans rfl; have hcz9_4 : w6.cell? ⟨gb316, 4, none⟩ = some (.int .i64 a1_4) := (blk_cell BK316.out 4).trans rfl; have hcz9_5 : w6.cell? ⟨gb316, 5, none⟩ = some (.bool a1_5) := (blk_cell BK316.out 5).trans rfl; have hcz9_6 : w6.cell? ⟨gb316, 6, none⟩ = some (.string a1_6) := (blk_cell BK316.out 6).trans rfl; have hcz9_7 : w6.cell? ⟨gb316, 7, none⟩ = some (.int .i64 a1_7) := (blk_cell BK316.out 7).trans rfl; have hcz9_8 : w6.cell? ⟨gb316, 8, none⟩ = some (.int .i64 a1_8) := (blk_cell BK316.out 8).trans rfl; have hcz9_9 : w6.cell? ⟨gb316, 9, none⟩ = some (.float .f64 a1_9) := (blk_cell BK316.out 9).trans rfl; have hcz9_10 : w6.cell? ⟨gb316, 10, none⟩ = some (.bool a1_10) := (blk_cell BK316.out 10).trans rfl; have hcz9_11 : w6.cell? ⟨gb316, 11, none⟩ = some (.bool a1_11) := (blk_cell BK316.out 11).trans rfl; have hcz9_12 : w6.cell? ⟨gb316, 12, none⟩ = some (.slice A1_12 l1_12.length c1_12) := (blk_cell BK316.out 12).trans rfl; have hfz9_0 := blk_frozen BK316.out 0; have hfz9_1 := blk_frozen BK316.out 1; have hfz9_2 := blk_frozen BK316.out 2; have hfz9_3 := blk_frozen BK316.out 3; have hfz9_4 := blk_frozen BK316.out 4; have hfz9_5 := blk_frozen BK316.out 5; have hfz9_6 := blk_frozen BK316.out 6; have hfz9_7 := blk_frozen BK316.out 7; have hfz9_8 := blk_frozen BK316.out 8; have hfz9_9 := blk_frozen BK316.out 9; have hfz9_10 := blk_frozen BK316.out 10; have hfz9_11 := blk_frozen BK316.out 11; have hfz9_12 := blk_frozen BK316.out 12))
      go_ret
      exact ⟨by first | rfl | (simp [errW_none, errW_some] <;> rfl) | (simp [*, errW_none, errW_some] <;> rfl), by repeat (first | (with_reducible first | exact HB.out | apply below_alloc | apply pw_below_drewN | apply below_drew1 | refine below_set ?_ GE315.out | refine below_set ?_ GE316.out) | exact HB.out)⟩
    · rw [if_neg c4] at H
      have c4b0 : (a0_1.toList == a1_1.toList) = false := beq_eq_false_iff_ne.mpr c4
      have c4b1 : (a0_1.toList != a1_1.toList) = true := bne_iff_ne.mpr c4
      obtain rfl := Option.some.inj H
      go_enter Try.func46, Try.ntmps46
      go_wp2_with (first | ((with_reducible refine gate_dst (N := 2) rfl ?_); refine box_event ?hg (N := 2) ?hd (cs := #[.string a0_0, .string a0_1, .bool a0_2, .int .i64 a0_3, .int .i64 a0_4, .bool a0_5, .string a0_6, .int .i64 a0_7, .int .i64 a0_8, .float .f64 a0_9, .bool a0_10, .bool a0_11, .slice A0_12 l0_12.length c0_12]) (t := 46) ?hr ?_; (case hd => rfl); (case hg => rfl); (case hr => first | (go_simp; done) | (go_simp; rfl)); intro gb315 hg w10 hbox hb; have n0_ := Aside0.mk (below_step (by repeat (first | (with_reducible first | exact HB.out | apply below_alloc | apply pw_below_drewN | apply below_drew1) | exact HB.out)) hb); have n1_ := Aside0.mk (hbox); have n2_ := Aside0.mk ((by rw [hg]; exact (below_size (by repeat (first | (with_reducible first | exact HB.out | apply below_alloc | apply pw_below_drewN | apply below_drew1) | exact HB.out))) : w.heap.size ≤ gb315)); have n3_ := Aside0.mk ((by rw [hg]; exact (below_size (by repeat (first | (with_reducible first | exact HB.out | apply below_alloc | apply pw_below_drewN | apply below_drew1) | exact HB.out))) : w.heap.size ≤ gb315)); clear HB; have HB := n0_; have BK315 := n1_; have GW315 := n2_; have GE315 := n3_; clear n0_ n1_ n2_ n3_; clear hb hbox hg) | ((with_reducible refine gate_dst (N := 3) rfl ?_); refine box_event ?hg (N := 3) ?hd (cs := #[.string a1_0, .string a1_1, .bool a1_2, .int .i64 a1_3, .int .i64 a1_4, .bool a1_5, .string a1_6, .int .i64 a1_7, .int .i64 a1_8, .float .f64 a1_9, .bool a1_10, .bool a1_11, .slice A1_12 l1_12.length c1_12]) (t := 46) ?hr ?_; (case hd => rfl); (case hg => rfl); (case hr => first | (go_simp; done) | (go_simp; rfl)); intro gb316 hg w11 hbox hb; have n0_ := Aside0.mk (blk_below (g := gb315) (o := .cells #[.string a0_0, .string a0_1, .bool a0_2, .int .i64 a0_3, .int .i64 a0_4, .bool a0_5, .string a0_6, .int .i64 a0_7, .int .i64 a0_8, .float .f64 a0_9, .bool a0_10, .bool a0_11, .slice A0_12 l0_12.length c0_12] 46 (0, 0)) (by (with_reducible repeat (first | refine blk_drewN ?_ _ | refine blk_drew ?_ | refine blk_alloc ?_ _)); exact BK315.out) hb); have n1_ := Aside0.mk (below_step (by repeat (first | (with_reducible first | exact HB.out | apply below_alloc | apply pw_below_drewN | apply below_drew1 | refine below_set ?_ GE315.out) | exact HB.out)) hb); have n2_ := Aside0.mk (hbox); have n3_ := Aside0.mk ((by rw [hg]; exact (below_size (by repeat (first | (with_reducible first | exact HB.out | apply below_alloc | apply pw_below_drewN | apply below_drew1 | refine below_set ?_ GE315.out) | exact HB.out))) : w.heap.size ≤ gb316)); have n4_ := Aside0.mk ((by rw [hg]; exact (below_size (by repeat (first | (with_reducible first | exact HB.out | apply below_alloc | apply pw_below_drewN | apply below_drew1 | refine below_set ?_ GE315.out) | exact HB.out))) : w.heap.size ≤ gb316)); have n5_ := Aside0.mk ((by rw [hg]; exact Nat.ne_of_lt (blk_lt (g := gb315) (o := .cells #[.string a0_0, .string a0_1, .bool a0_2, .int .i64 a0_3, .int .i64 a0_4, .bool a0_5, .string a0_6, .int .i64 a0_7, .int .i64 a0_8, .float .f64 a0_9, .bool a0_10, .bool a0_11, .slice A0_12 l0_12.length c0_12] 46 (0, 0)) (by (with_reducible repeat (first | refine blk_drewN ?_ _ | refine blk_drew ?_ | refine blk_alloc ?_ _)); exact BK315.out)) : gb315 ≠ gb316)); have n6_ := Aside0.mk ((by rw [hg]; exact Nat.ne_of_gt (blk_lt (g := gb315) (o := .cells #[.string a0_0, .string a0_1, .bool a0_2, .int .i64 a0_3, .int .i64 a0_4, .bool a0_5, .string a0_6, .int .i64 a0_7, .int .i64 a0_8, .float .f64 a0_9, .bool a0_10, .bool a0_11, .slice A0_12 l0_12.length c0_12] 46 (0, 0)) (by (with_reducible repeat (first | refine blk_drewN ?_ _ | refine blk_drew ?_ | refine blk_alloc ?_ _)); exact BK315.out)) : gb316 ≠ gb315)); clear BK315; clear HB; have BK315 := n0_; have HB := n1_; have BK316 := n2_; have GW316 := n3_; have GE316 := n4_; have NB315_316 := n5_; have NB316_315 := n6_; clear n0_ n1_ n2_ n3_ n4_ n5_ n6_; clear hb hbox hg; have hnb12 := NB315_316.out; have hnc12 := NB316_315.out; have hcz13_0 : w11.cell? ⟨gb315, 0, none⟩ = some (.string a0_0) := (blk_cell BK315.out 0).trans rfl; have hcz13_1 : w11.cell? ⟨gb315, 1, none⟩ = some (.string a0_1) := (blk_cell BK315.out 1).trans rfl; have hcz13_2 : w11.cell? ⟨gb315, 2, none⟩ = some (.bool a0_2) := (blk_cell BK315.out 2).trans rfl; have hcz13_3 : w11.cell? ⟨gb315, 3, none⟩ = some (.int .i64 a0_3) := (blk_cell BK315.out 3).trans rfl; have hcz13_4 : w11.cell? ⟨gb315, 4, none⟩ = some (.int .i64 a0_4) := (blk_cell BK315.out 4).trans rfl; have hcz13_5 : w11.cell? ⟨gb315, 5, none⟩ = some (.bool a0_5) := (blk_cell BK315.out 5).trans rfl; have hcz13_6 : w11.cell? ⟨gb315, 6, none⟩ = some (.string a0_6) := (blk_cell BK315.out 6).trans rfl; have hcz13_7 : w11.cell? ⟨gb315, 7, none⟩ = some (.int .i64 a0_7) := (blk_cell BK315.out 7).trans rfl; have hcz13_8 : w11.cell? ⟨gb315, 8, none⟩ = some (.int .i64 a0_8) := (blk_cell BK315.out 8).trans rfl; have hcz13_9 : w11.cell? ⟨gb315, 9, none⟩ = some (.float .f64 a0_9) := (blk_cell BK315.out 9).trans rfl; have hcz13_10 : w11.cell? ⟨gb315, 10, none⟩ = some (.bool a0_10) := (blk_cell BK315.out 10).trans rfl; have hcz13_11 : w11.cell? ⟨gb315, 11, none⟩ = some (.bool a0_11) := (blk_cell BK315.out 11).trans rfl; have hcz13_12 : w11.cell? ⟨gb315, 12, none⟩ = some (.slice A0_12 l0_12.length c0_12) := (blk_cell BK315.out 12).trans rfl; have hfz13_0 := blk_frozen BK315.out 0; have hfz13_1 := blk_frozen BK315.out 1; have hfz13_2 := blk_frozen BK315.out 2; have hfz13_3 := blk_frozen BK315.out 3; have hfz13_4 := blk_frozen BK315.out 4; have hfz13_5 := blk_frozen BK315.out 5; have hfz13_6 := blk_frozen BK315.out 6; have hfz13_7 := blk_frozen BK315.out 7; have hfz13_8 := blk_frozen BK315.out 8; have hfz13_9 := blk_frozen BK315.out 9; have hfz13_10 := blk_frozen BK315.out 10; have hfz13_11 := blk_frozen BK315.out 11; have hfz13_12 := blk_frozen BK315.out 12; have hcz14_0 : w11.cell? ⟨gb316, 0, none⟩ = some (.string a1_0) := (blk_cell BK316.out 0).trans rfl; have hcz14_1 : w11.cell? ⟨gb316, 1, none⟩ = some (.string a1_1) := (blk_cell BK316.out 1).trans rfl; have hcz14_2 : w11.cell? ⟨gb316, 2, none⟩ = some (.bool a1_2) := (blk_cell BK316.out 2).trans rfl; have hcz14_3 : w11.cell? ⟨gb316, 3, none⟩ = some (.int .i64 a1_3) := (blk_cell BK316.out 3).trans rfl; have hcz14_4 : w11.cell? ⟨gb316, 4, none⟩ = some (.int .i64 a1_4) := (blk_cell BK316.out 4).trans rfl; have hcz14_5 : w11.cell? ⟨gb316, 5, none⟩ = some (.bool a1_5) := (blk_cell BK316.out 5).trans rfl; have hcz14_6 : w11.cell? ⟨gb316, 6, none⟩ = some (.string a1_6) := (blk_cell BK316.out 6).trans rfl; have hcz14_7 : w11.cell? ⟨gb316, 7, none⟩ = some (.int .i64 a1_7) := (blk_cell BK316.out 7).trans rfl; have hcz14_8 : w11.cell? ⟨gb316, 8, none⟩ = some (.int .i64 a1_8) := (blk_cell BK316.out 8).trans rfl; have hcz14_9 : w11.cell? ⟨gb316, 9, none⟩ = some (.float .f64 a1_9) := (blk_cell BK316.out 9).trans rfl; have hcz14_10 : w11.cell? ⟨gb316, 10, none⟩ = some (.bool a1_10) := (blk_cell BK316.out 10).trans rfl; have hcz14_11 : w11.cell? ⟨gb316, 11, none⟩ = some (.bool a1_11) := (blk_cell BK316.out 11).trans rfl; have hcz14_12 : w11.cell? ⟨gb316, 12, none⟩ = some (.slice A1_12 l1_12.length c1_12) := (blk_cell BK316.out 12).trans rfl; have hfz14_0 := blk_frozen BK316.out 0; have hfz14_1 := blk_frozen BK316.out 1; have hfz14_2 := blk_frozen BK316.out 2; have hfz14_3 := blk_frozen BK316.out 3; have hfz14_4 := blk_frozen BK316.out 4; have hfz14_5 := blk_frozen BK316.out 5; have hfz14_6 := blk_frozen BK316.out 6; have hfz14_7 := blk_frozen BK316.out 7; have hfz14_8 := blk_frozen BK316.out 8; have hfz14_9 := blk_frozen BK316.out 9; have hfz14_10 := blk_frozen BK316.out 10; have hfz14_11 := blk_frozen BK316.out 11; have hfz14_12 := blk_frozen BK316.out 12))
      go_ret
      exact ⟨by first | rfl | (simp [errW_none, errW_some] <;> rfl) | (simp [*, errW_none, errW_some] <;> rfl), by repeat (first | (with_reducible first | exact HB.out | apply below_alloc | apply pw_below_drewN | apply below_drew1 | refine below_set ?_ GE315.out | refine below_set ?_ GE316.out) | exact HB.out)⟩
  · rw [if_neg c3] at H
    have c3b0 : (a0_0.toList == a1_0.toList) = false := beq_eq_false_iff_ne.mpr c3
    have c3b1 : (a0_0.toList != a1_0.toList) = true := bne_iff_ne.mpr c3
    obtain rfl := Option.some.inj H
    go_enter Try.func46, Try.ntmps46
    go_wp2_with (first | ((with_reducible refine gate_dst (N := 2) rfl ?_); refine box_event ?hg (N := 2) ?hd (cs := #[.string a0_0, .string a0_1, .bool a0_2, .int .i64 a0_3, .int .i64 a0_4, .bool a0_5, .string a0_6, .int .i64 a0_7, .int .i64 a0_8, .float .f64 a0_9, .bool a0_10, .bool a0_11, .slice A0_12 l0_12.length c0_12]) (t := 46) ?hr ?_; (case hd => rfl); (case hg => rfl); (case hr => first | (go_simp; done) | (go_simp; rfl)); intro gb315 hg w15 hbox hb; have n0_ := Aside0.mk (below_step (by repeat (first | (with_reducible first | exact HB.out | apply below_alloc | apply pw_below_drewN | apply below_drew1) | exact HB.out)) hb); have n1_ := Aside0.mk (hbox); have n2_ := Aside0.mk ((by rw [hg]; exact (below_size (by repeat (first | (with_reducible first | exact HB.out | apply below_alloc | apply pw_below_drewN | apply below_drew1) | exact HB.out))) : w.heap.size ≤ gb315)); have n3_ := Aside0.mk ((by rw [hg]; exact (below_size (by repeat (first | (with_reducible first | exact HB.out | apply below_alloc | apply pw_below_drewN | apply below_drew1) | exact HB.out))) : w.heap.size ≤ gb315)); clear HB; have HB := n0_; have BK315 := n1_; have GW315 := n2_; have GE315 := n3_; clear n0_ n1_ n2_ n3_; clear hb hbox hg) | ((with_reducible refine gate_dst (N := 3) rfl ?_); refine box_event ?hg (N := 3) ?hd (cs := #[.string a1_0, .string a1_1, .bool a1_2, .int .i64 a1_3, .int .i64 a1_4, .bool a1_5, .string a1_6, .int .i64 a1_7, .int .i64 a1_8, .float .f64 a1_9, .bool a1_10, .bool a1_11, .slice A1_12 l1_12.length c1_12]) (t := 46) ?hr ?_; (case hd => rfl); (case hg => rfl); (case hr => first | (go_simp; done) | (go_simp; rfl)); intro gb316 hg w16 hbox hb; have n0_ := Aside0.mk (blk_below (g := gb315) (o := .cells #[.string a0_0, .string a0_1, .bool a0_2, .int .i64 a0_3, .int .i64 a0_4, .bool a0_5, .string a0_6, .int .i64 a0_7, .int .i64 a0_8, .float .f64 a0_9, .bool a0_10, .bool a0_11, .slice A0_12 l0_12.length c0_12] 46 (0, 0)) (by (with_reducible repeat (first | refine blk_drewN ?_ _ | refine blk_drew ?_ | refine blk_alloc ?_ _)); exact BK315.out) hb); have n1_ := Aside0.mk (below_step (by repeat (first | (with_reducible first | exact HB.out | apply below_alloc | apply pw_below_drewN | apply below_drew1 | refine below_set ?_ GE315.out) | exact HB.out)) hb); have n2_ := Aside0.mk (hbox); have n3_ := Aside0.mk ((by rw [hg]; exact (below_size (by repeat (first | (with_reducible first | exact HB.out | apply below_alloc | apply pw_below_drewN | apply below_drew1 | refine below_set ?_ GE315.out) | exact HB.out))) : w.heap.size ≤ gb316)); have n4_ := Aside0.mk ((by rw [hg]; exact (below_size (by repeat (first | (with_reducible first | exact HB.out | apply below_alloc | apply pw_below_drewN | apply below_drew1 | refine below_set ?_ GE315.out) | exact HB.out))) : w.heap.size ≤ gb316)); have n5_ := Aside0.mk ((by rw [hg]; exact Nat.ne_of_lt (blk_lt (g := gb315) (o := .cells #[.string a0_0, .string a0_1, .bool a0_2, .int .i64 a0_3, .int .i64 a0_4, .bool a0_5, .string a0_6, .int .i64 a0_7, .int .i64 a0_8, .float .f64 a0_9, .bool a0_10, .bool a0_11, .slice A0_12 l0_12.length c0_12] 46 (0, 0)) (by (with_reducible repeat (first | refine blk_drewN ?_ _ | refine blk_drew ?_ | refine blk_alloc ?_ _)); exact BK315.out)) : gb315 ≠ gb316)); have n6_ := Aside0.mk ((by rw [hg]; exact Nat.ne_of_gt (blk_lt (g := gb315) (o := .cells #[.string a0_0, .string a0_1, .bool a0_2, .int .i64 a0_3, .int .i64 a0_4, .bool a0_5, .string a0_6, .int .i64 a0_7, .int .i64 a0_8, .float .f64 a0_9, .bool a0_10, .bool a0_11, .slice A0_12 l0_12.length c0_12] 46 (0, 0)) (by (with_reducible repeat (first | refine blk_drewN ?_ _ | refine blk_drew ?_ | refine blk_alloc ?_ _)); exact BK315.out)) : gb316 ≠ gb315)); clear BK315; clear HB; have BK315 := n0_; have HB := n1_; have BK316 := n2_; have GW316 := n3_; have GE316 := n4_; have NB315_316 := n5_; have NB316_315 := n6_; clear n0_ n1_ n2_ n3_ n4_ n5_ n6_; clear hb hbox hg; have hnb17 := NB315_316.out; have hnc17 := NB316_315.out; have hcz18_0 : w16.cell? ⟨gb315, 0, none⟩ = some (.string a0_0) := (blk_cell BK315.out 0).trans rfl; have hcz18_1 : w16.cell? ⟨gb315, 1, none⟩ = some (.string a0_1) := (blk_cell BK315.out 1).trans rfl; have hcz18_2 : w16.cell? ⟨gb315, 2, none⟩ = some (.bool a0_2) := (blk_cell BK315.out 2).trans rfl; have hcz18_3 : w16.cell? ⟨gb315, 3, none⟩ = some (.int .i64 a0_3) := (blk_cell BK315.out 3).trans rfl; have hcz18_4 : w16.cell? ⟨gb315, 4, none⟩ = some (.int .i64 a0_4) := (blk_cell BK315.out 4).trans rfl; have hcz18_5 : w16.cell? ⟨gb315, 5, none⟩ = some (.bool a0_5) := (blk_cell BK315.out 5).trans rfl; have hcz18_6 : w16.cell? ⟨gb315, 6, none⟩ = some (.string a0_6) := (blk_cell BK315.out 6).trans rfl; have hcz18_7 : w16.cell? ⟨gb315, 7, none⟩ = some (.int .i64 a0_7) := (blk_cell BK315.out 7).trans rfl; have hcz18_8 : w16.cell? ⟨gb315, 8, none⟩ = some (.int .i64 a0_8) := (blk_cell BK315.out 8).trans rfl; have hcz18_9 : w16.cell? ⟨gb315, 9, none⟩ = some (.float .f64 a0_9) := (blk_cell BK315.out 9).trans rfl; have hcz18_10 : w16.cell? ⟨gb315, 10, none⟩ = some (.bool a0_10) := (blk_cell BK315.out 10).trans rfl; have hcz18_11 : w16.cell? ⟨gb315, 11, none⟩ = some (.bool a0_11) := (blk_cell BK315.out 11).trans rfl; have hcz18_12 : w16.cell? ⟨gb315, 12, none⟩ = some (.slice A0_12 l0_12.length c0_12) := (blk_cell BK315.out 12).trans rfl; have hfz18_0 := blk_frozen BK315.out 0; have hfz18_1 := blk_frozen BK315.out 1; have hfz18_2 := blk_frozen BK315.out 2; have hfz18_3 := blk_frozen BK315.out 3; have hfz18_4 := blk_frozen BK315.out 4; have hfz18_5 := blk_frozen BK315.out 5; have hfz18_6 := blk_frozen BK315.out 6; have hfz18_7 := blk_frozen BK315.out 7; have hfz18_8 := blk_frozen BK315.out 8; have hfz18_9 := blk_frozen BK315.out 9; have hfz18_10 := blk_frozen BK315.out 10; have hfz18_11 := blk_frozen BK315.out 11; have hfz18_12 := blk_frozen BK315.out 12; have hcz19_0 : w16.cell? ⟨gb316, 0, none⟩ = some (.string a1_0) := (blk_cell BK316.out 0).trans rfl; have hcz19_1 : w16.cell? ⟨gb316, 1, none⟩ = some (.string a1_1) := (blk_cell BK316.out 1).trans rfl; have hcz19_2 : w16.cell? ⟨gb316, 2, none⟩ = some (.bool a1_2) := (blk_cell BK316.out 2).trans rfl; have hcz19_3 : w16.cell? ⟨gb316, 3, none⟩ = some (.int .i64 a1_3) := (blk_cell BK316.out 3).trans rfl; have hcz19_4 : w16.cell? ⟨gb316, 4, none⟩ = some (.int .i64 a1_4) := (blk_cell BK316.out 4).trans rfl; have hcz19_5 : w16.cell? ⟨gb316, 5, none⟩ = some (.bool a1_5) := (blk_cell BK316.out 5).trans rfl; have hcz19_6 : w16.cell? ⟨gb316, 6, none⟩ = some (.string a1_6) := (blk_cell BK316.out 6).trans rfl; have hcz19_7 : w16.cell? ⟨gb316, 7, none⟩ = some (.int .i64 a1_7) := (blk_cell BK316.out 7).trans rfl; have hcz19_8 : w16.cell? ⟨gb316, 8, none⟩ = some (.int .i64 a1_8) := (blk_cell BK316.out 8).trans rfl; have hcz19_9 : w16.cell? ⟨gb316, 9, none⟩ = some (.float .f64 a1_9) := (blk_cell BK316.out 9).trans rfl; have hcz19_10 : w16.cell? ⟨gb316, 10, none⟩ = some (.bool a1_10) := (blk_cell BK316.out 10).trans rfl; have hcz19_11 : w16.cell? ⟨gb316, 11, none⟩ = some (.bool a1_11) := (blk_cell BK316.out 11).trans rfl; have hcz19_12 : w16.cell? ⟨gb316, 12, none⟩ = some (.slice A1_12 l1_12.length c1_12) := (blk_cell BK316.out 12).trans rfl; have hfz19_0 := blk_frozen BK316.out 0; have hfz19_1 := blk_frozen BK316.out 1; have hfz19_2 := blk_frozen BK316.out 2; have hfz19_3 := blk_frozen BK316.out 3; have hfz19_4 := blk_frozen BK316.out 4; have hfz19_5 := blk_frozen BK316.out 5; have hfz19_6 := blk_frozen BK316.out 6; have hfz19_7 := blk_frozen BK316.out 7; have hfz19_8 := blk_frozen BK316.out 8; have hfz19_9 := blk_frozen BK316.out 9; have hfz19_10 := blk_frozen BK316.out 10; have hfz19_11 := blk_frozen BK316.out 11; have hfz19_12 := blk_frozen BK316.out 12))
    go_ret
    exact ⟨by first | rfl | (simp [errW_none, errW_some] <;> rfl) | (simp [*, errW_none, errW_some] <;> rfl), by repeat (first | (with_reducible first | exact HB.out | apply below_alloc | apply pw_below_drewN | apply below_drew1 | refine below_set ?_ GE315.out | refine below_set ?_ GE316.out) | exact HB.out)⟩
def trie_top.f (a0 : Int) : Option (Int) := some (wrap64 ((-1) - a0))
set_option maxHeartbeats 8000000 in
set_option maxRecDepth 100000 in
theorem trie_top.calls (a0 : Int) (r : Int) (w : World) (h : trie_top.f a0 = some r) :
    Calls Try.prog 22 #[.int .i64 a0] w fun e w' => e = .returned (.int .i64 r) ∧ Drawn0 w w' := by
  have H : (some (wrap64 ((-1) - a0))) = some r := h
  clear h
  obtain rfl := Option.some.inj H
  go_enter Try.func22, Try.ntmps22
  go_wp2
  go_ret
  exact ⟨by first | rfl | (simp; done) | (simp [*]; done), by repeat (first | exact Drawn0.refl _ | apply Drawn0.step)⟩
end Go.Proofs.Ytipbigdpannlcaa.PTrieFits
