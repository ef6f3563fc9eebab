/- What the law TrieRaw uses, thinned: printed by shake2.py. -/
import Derived.Test.YtipbigdpannlcaaTTrieRawPTrieFitsx0
import Derived.Test.YtipbigdpannlcaaTTrieRawPTrieFitsx1
import Derived.Test.YtipbigdpannlcaaTTrieRawPTrieFitsx5
namespace Go.Proofs.Ytipbigdpannlcaa.PTrieFits
open Go.RowKit Go.Proofs.YtipbigdpannlcaaW.PrintWords Go.Proofs.YtipbigdpannlcaaW.PrintLast Go.Proofs.YtipbigdpannlcaaW.PrintMore
attribute [local go_sem] max2_int min2_int max_two min_two max_three min_three max_four min_four
set_option linter.unusedVariables false
set_option linter.unusedSimpArgs false
def config_may.j0 : Nat → Bool → ByteArray → ByteArray → Bool → Int → Int → Bool → ByteArray → Int → Int → Nat → Bool → Bool → List Int → Option (Bool)
  | 0, _, _, _, _, _, _, _, _, _, _, _, _, _, _ => none
  | k + 1, x37, x178000, x178001, x178002, x178003, x178004, x178005, x178006, x178007, x178008, x178009, x178010, x178011, x178012 => if x37 = true then (some false) else (if x178005 = true then ((rule_Check.f k x178006 x178007 x178008 x178009 x178010 x178011).bind fun t179 => (some (t179 == 0))) else ((rule_Same.f x178006 x178007 x178008 x178009 x178010 x178011 (⟨#[]⟩ : ByteArray) 0 0 0 false false).bind fun t180 => (some t180)))
def config_may.f (k : Nat) (a0_0 : ByteArray) (a0_1 : ByteArray) (a0_2 : Bool) (a0_3 : Int) (a0_4 : Int) (a0_5 : Bool) (a0_6 : ByteArray) (a0_7 : Int) (a0_8 : Int) (a0_9 : Nat) (a0_10 : Bool) (a0_11 : Bool) (l0_12 : List Int) (a1 : Int) (a2 : Int) : Option (Bool) := if a0_3 = a1 then (if a0_4 = a2 then ((desc_Name.f k a0_0).bind fun t178 => (if t178 = true then (if (a0_1.size : Int) > 128 then (config_may.j0 k true a0_0 a0_1 a0_2 a0_3 a0_4 a0_5 a0_6 a0_7 a0_8 a0_9 a0_10 a0_11 l0_12) else (if a0_2 = true then (config_may.j0 k (a0_1.toList != ([] : List UInt8)) a0_0 a0_1 a0_2 a0_3 a0_4 a0_5 a0_6 a0_7 a0_8 a0_9 a0_10 a0_11 l0_12) else (config_may.j0 k false a0_0 a0_1 a0_2 a0_3 a0_4 a0_5 a0_6 a0_7 a0_8 a0_9 a0_10 a0_11 l0_12))) else (config_may.j0 k true a0_0 a0_1 a0_2 a0_3 a0_4 a0_5 a0_6 a0_7 a0_8 a0_9 a0_10 a0_11 l0_12))) else (config_may.j0 k true a0_0 a0_1 a0_2 a0_3 a0_4 a0_5 a0_6 a0_7 a0_8 a0_9 a0_10 a0_11 l0_12)) else (config_may.j0 k true a0_0 a0_1 a0_2 a0_3 a0_4 a0_5 a0_6 a0_7 a0_8 a0_9 a0_10 a0_11 l0_12)
set_option maxHeartbeats 8000000 in
set_option maxRecDepth 100000 in
theorem config_may.calls (k : Nat) (a0_0 : ByteArray) (a0_1 : ByteArray) (a0_2 : Bool) (a0_3 : Int) (a0_4 : Int) (a0_5 : Bool) (a0_6 : ByteArray) (a0_7 : Int) (a0_8 : Int) (a0_9 : Nat) (a0_10 : Bool) (a0_11 : Bool) (A0_12 : Option Addr) (c0_12 : Nat) (l0_12 : List Int) (a1 : Int) (a2 : Int) (r : Bool) (w : World) (hr0_12 : Kd.C (Kd.int .i64) w A0_12 l0_12.length l0_12) (hc0_12 : l0_12.length ≤ c0_12) (h : config_may.f k a0_0 a0_1 a0_2 a0_3 a0_4 a0_5 a0_6 a0_7 a0_8 a0_9 a0_10 a0_11 l0_12 a1 a2 = some r) :
    Calls Try.prog 43 #[.agg #[.string a0_0, .string a0_1, .bool a0_2, .int .i64 a0_3, .int .i64 a0_4, .bool a0_5, .string a0_6, .int .i64 a0_7, .int .i64 a0_8, .float .f64 a0_9, .bool a0_10, .bool a0_11, .slice A0_12 l0_12.length c0_12], .int .i64 a1, .int .i64 a2] w fun e w' => e = .returned (.bool r) ∧ Below w.heap.size w w' := by
  have hu46 := Try.underlying46
  have hu44 := Try.underlying44
  have HR0_12 := Aside0.mk hr0_12
  have HC0_12 := Aside0.mk hc0_12
  clear hr0_12 hc0_12
  have HB := Aside0.mk (Below.refl w.heap.size w)
  have H : (if a0_3 = a1 then (if a0_4 = a2 then ((desc_Name.f k a0_0).bind fun t178 => (if t178 = true then (if (a0_1.size : Int) > 128 then (config_may.j0 k true a0_0 a0_1 a0_2 a0_3 a0_4 a0_5 a0_6 a0_7 a0_8 a0_9 a0_10 a0_11 l0_12) else (if a0_2 = true then (config_may.j0 k (a0_1.toList != ([] : List UInt8)) a0_0 a0_1 a0_2 a0_3 a0_4 a0_5 a0_6 a0_7 a0_8 a0_9 a0_10 a0_11 l0_12) else (config_may.j0 k false a0_0 a0_1 a0_2 a0_3 a0_4 a0_5 a0_6 a0_7 a0_8 a0_9 a0_10 a0_11 l0_12))) else (config_may.j0 k true a0_0 a0_1 a0_2 a0_3 a0_4 a0_5 a0_6 a0_7 a0_8 a0_9 a0_10 a0_11 l0_12))) else (config_may.j0 k true a0_0 a0_1 a0_2 a0_3 a0_4 a0_5 a0_6 a0_7 a0_8 a0_9 a0_10 a0_11 l0_12)) else (config_may.j0 k true a0_0 a0_1 a0_2 a0_3 a0_4 a0_5 a0_6 a0_7 a0_8 a0_9 a0_10 a0_11 l0_12)) = some r := h
  clear h
  have HC4 := Aside0.mk H
  clear H
  go_enter Try.func43, Try.ntmps43
  go_upto_region 1 with (first | ((with_reducible refine gate_dst (N := 3) rfl ?_); (try (refine gate_guard (by rfl) ?_; dsimp only)); refine box_event ?hg (N := 3) ?hd (cs := #[.string a0_0, .string a0_1, .bool a0_2, .int .i64 a0_3, .int .i64 a0_4, .bool a0_5, .string a0_6, .int .i64 a0_7, .int .i64 a0_8, .float .f64 a0_9, .bool a0_10, .bool a0_11, .slice A0_12 l0_12.length c0_12]) (t := 46) ?hr ?_; (case hd => rfl); (case hg => rfl); (case hr => first | (go_simp; done) | (go_simp; rfl)); intro gb177 hg w5 hbox hb; have n0_ := Aside0.mk (below_step (by repeat (first | (with_reducible first | exact HB.out | apply below_alloc | apply pw_below_drewN | apply below_drew1) | exact HB.out)) hb); have n1_ := Aside0.mk (hbox); have n2_ := Aside0.mk ((by rw [hg]; exact (below_size (by repeat (first | (with_reducible first | exact HB.out | apply below_alloc | apply pw_below_drewN | apply below_drew1) | exact HB.out))) : w.heap.size ≤ gb177)); have n3_ := Aside0.mk ((by rw [hg]; exact (below_size (by repeat (first | (with_reducible first | exact HB.out | apply below_alloc | apply pw_below_drewN | apply below_drew1) | exact HB.out))) : w.heap.size ≤ gb177)); clear HB; have HB := n0_; have BK177 := n1_; have GW177 := n2_; have GE177 := n3_; clear n0_ n1_ n2_ n3_; clear hb hbox hg))
  (try simp only [Act.put, List.setIfInBounds_toArray, List.set_cons_zero, List.set_cons_succ])
  go_cut [37] (fun v37 wc => ∃ (kq : Nat) (x37_3 : Bool), v37 = .bool x37_3 ∧ Aside0 (config_may.j0 kq x37_3 a0_0 a0_1 a0_2 a0_3 a0_4 a0_5 a0_6 a0_7 a0_8 a0_9 a0_10 a0_11 l0_12 = some r) ∧ Aside0 (kq ≤ k) ∧ Aside0 (wc.heap[gb177]? = some (.cells #[.string a0_0, .string a0_1, .bool a0_2, .int .i64 a0_3, .int .i64 a0_4, .bool a0_5, .string a0_6, .int .i64 a0_7, .int .i64 a0_8, .float .f64 a0_9, .bool a0_10, .bool a0_11, (.slice A0_12 l0_12.length c0_12)] 46 (0, 0))) ∧ Aside0 (Below w.heap.size w wc))
  case first =>
    have H := HC4.out
    clear HC4
    by_cases c6 : a0_3 = a1
    · rw [if_pos c6] at H
      have c6b0 : (a0_3 == a1) = true := beq_iff_eq.mpr c6
      have c6b1 : (a0_3 != a1) = false := bne_eq_false_iff_eq.mpr c6
      clear c6
      (first | rw [c6b0] | (simp only [i64_w, i32_w]; rw [c6b0]) | skip)
      by_cases c7 : a0_4 = a2
      · rw [if_pos c7] at H
        have c7b0 : (a0_4 == a2) = true := beq_iff_eq.mpr c7
        have c7b1 : (a0_4 != a2) = false := bne_eq_false_iff_eq.mpr c7
        clear c7
        replace H := Option.bind_eq_some_iff.mp H
        obtain ⟨t178, A80, H⟩ := H
        replace H : (if t178 = true then (if (a0_1.size : Int) > 128 then (config_may.j0 k true a0_0 a0_1 a0_2 a0_3 a0_4 a0_5 a0_6 a0_7 a0_8 a0_9 a0_10 a0_11 l0_12) else (if a0_2 = true then (config_may.j0 k (a0_1.toList != ([] : List UInt8)) a0_0 a0_1 a0_2 a0_3 a0_4 a0_5 a0_6 a0_7 a0_8 a0_9 a0_10 a0_11 l0_12) else (config_may.j0 k false a0_0 a0_1 a0_2 a0_3 a0_4 a0_5 a0_6 a0_7 a0_8 a0_9 a0_10 a0_11 l0_12))) else (config_may.j0 k true a0_0 a0_1 a0_2 a0_3 a0_4 a0_5 a0_6 a0_7 a0_8 a0_9 a0_10 a0_11 l0_12)) = some r := H
        have A8 := Aside0.mk A80
        clear A80
        by_cases c9 : t178 = true
        · subst c9
          have H1 : (if (a0_1.size : Int) > 128 then (config_may.j0 k true a0_0 a0_1 a0_2 a0_3 a0_4 a0_5 a0_6 a0_7 a0_8 a0_9 a0_10 a0_11 l0_12) else (if a0_2 = true then (config_may.j0 k (a0_1.toList != ([] : List UInt8)) a0_0 a0_1 a0_2 a0_3 a0_4 a0_5 a0_6 a0_7 a0_8 a0_9 a0_10 a0_11 l0_12) else (config_may.j0 k false a0_0 a0_1 a0_2 a0_3 a0_4 a0_5 a0_6 a0_7 a0_8 a0_9 a0_10 a0_11 l0_12))) = some r := by rw [if_pos rfl] at H; exact H
          clear H
          have H := H1
          clear H1
          by_cases c10 : (a0_1.size : Int) > 128
          · rw [if_pos c10] at H
            have c10b0 : decide (128 < (a0_1.size : Int)) = true := decide_eq_true c10
            have c10b1 : decide (128 < a0_1.size) = true := decide_eq_true (by omega)
            clear c10
            have H' := Aside0.mk H
            clear H
            have hcz11_0 : w5.cell? ⟨gb177, 0, none⟩ = some (.string a0_0) := (blk_cell BK177.out 0).trans rfl
            have hcz11_1 : w5.cell? ⟨gb177, 1, none⟩ = some (.string a0_1) := (blk_cell BK177.out 1).trans rfl
            have hcz11_2 : w5.cell? ⟨gb177, 2, none⟩ = some (.bool a0_2) := (blk_cell BK177.out 2).trans rfl
            have hcz11_3 : w5.cell? ⟨gb177, 3, none⟩ = some (.int .i64 a0_3) := (blk_cell BK177.out 3).trans rfl
            have hcz11_4 : w5.cell? ⟨gb177, 4, none⟩ = some (.int .i64 a0_4) := (blk_cell BK177.out 4).trans rfl
            have hcz11_5 : w5.cell? ⟨gb177, 5, none⟩ = some (.bool a0_5) := (blk_cell BK177.out 5).trans rfl
            have hcz11_6 : w5.cell? ⟨gb177, 6, none⟩ = some (.string a0_6) := (blk_cell BK177.out 6).trans rfl
            have hcz11_7 : w5.cell? ⟨gb177, 7, none⟩ = some (.int .i64 a0_7) := (blk_cell BK177.out 7).trans rfl
            have hcz11_8 : w5.cell? ⟨gb177, 8, none⟩ = some (.int .i64 a0_8) := (blk_cell BK177.out 8).trans rfl
            have hcz11_9 : w5.cell? ⟨gb177, 9, none⟩ = some (.float .f64 a0_9) := (blk_cell BK177.out 9).trans rfl
            have hcz11_10 : w5.cell? ⟨gb177, 10, none⟩ = some (.bool a0_10) := (blk_cell BK177.out 10).trans rfl
            have hcz11_11 : w5.cell? ⟨gb177, 11, none⟩ = some (.bool a0_11) := (blk_cell BK177.out 11).trans rfl
            have hcz11_12 : w5.cell? ⟨gb177, 12, none⟩ = some (.slice A0_12 l0_12.length c0_12) := (blk_cell BK177.out 12).trans rfl
            have hfz11_0 := blk_frozen BK177.out 0
            have hfz11_1 := blk_frozen BK177.out 1
            have hfz11_2 := blk_frozen BK177.out 2
            have hfz11_3 := blk_frozen BK177.out 3
            have hfz11_4 := blk_frozen BK177.out 4
            have hfz11_5 := blk_frozen BK177.out 5
            have hfz11_6 := blk_frozen BK177.out 6
            have hfz11_7 := blk_frozen BK177.out 7
            have hfz11_8 := blk_frozen BK177.out 8
            have hfz11_9 := blk_frozen BK177.out 9
            have hfz11_10 := blk_frozen BK177.out 10
            have hfz11_11 := blk_frozen BK177.out 11
            have hfz11_12 := blk_frozen BK177.out 12
            go_wp2_with (first | (go_at_call 35; (with_reducible refine (desc_Name.calls k a0_0 true _ A8.out).mono ?_); rintro e w' ⟨rfl, ⟨nd, rfl⟩⟩))
            go_meet
            case rel => exact ⟨_, (true), (by first | rfl | (simp; done) | (simp [*]; done)), H', ⟨by first | omega | exact Nat.le_refl _⟩, ⟨by (with_reducible repeat (first | refine blk_drewN ?_ _ | refine blk_drew ?_ | refine blk_alloc ?_ _)); exact BK177.out⟩, ⟨by repeat (first | (with_reducible first | exact HB.out | apply below_alloc | apply pw_below_drewN | apply below_drew1 | refine below_set ?_ GE177.out) | exact HB.out)⟩⟩
          · rw [if_neg c10] at H
            have c10b0 : decide (128 < (a0_1.size : Int)) = false := decide_eq_false c10
            have c10b1 : decide (128 < a0_1.size) = false := decide_eq_false (by omega)
            clear c10
            by_cases c12 : a0_2 = true
            · subst c12
              have H1 : (config_may.j0 k (a0_1.toList != ([] : List UInt8)) a0_0 a0_1 true a0_3 a0_4 a0_5 a0_6 a0_7 a0_8 a0_9 a0_10 a0_11 l0_12) = some r := by rw [if_pos rfl] at H; exact H
              clear H
              have H := H1
              clear H1
              have H' := Aside0.mk H
              clear H
              have hcz13_0 : w5.cell? ⟨gb177, 0, none⟩ = some (.string a0_0) := (blk_cell BK177.out 0).trans rfl
              have hcz13_1 : w5.cell? ⟨gb177, 1, none⟩ = some (.string a0_1) := (blk_cell BK177.out 1).trans rfl
              have hcz13_2 : w5.cell? ⟨gb177, 2, none⟩ = some (.bool true) := (blk_cell BK177.out 2).trans rfl
              have hcz13_3 : w5.cell? ⟨gb177, 3, none⟩ = some (.int .i64 a0_3) := (blk_cell BK177.out 3).trans rfl
              have hcz13_4 : w5.cell? ⟨gb177, 4, none⟩ = some (.int .i64 a0_4) := (blk_cell BK177.out 4).trans rfl
              have hcz13_5 : w5.cell? ⟨gb177, 5, none⟩ = some (.bool a0_5) := (blk_cell BK177.out 5).trans rfl
              have hcz13_6 : w5.cell? ⟨gb177, 6, none⟩ = some (.string a0_6) := (blk_cell BK177.out 6).trans rfl
              have hcz13_7 : w5.cell? ⟨gb177, 7, none⟩ = some (.int .i64 a0_7) := (blk_cell BK177.out 7).trans rfl
              have hcz13_8 : w5.cell? ⟨gb177, 8, none⟩ = some (.int .i64 a0_8) := (blk_cell BK177.out 8).trans rfl
              have hcz13_9 : w5.cell? ⟨gb177, 9, none⟩ = some (.float .f64 a0_9) := (blk_cell BK177.out 9).trans rfl
              have hcz13_10 : w5.cell? ⟨gb177, 10, none⟩ = some (.bool a0_10) := (blk_cell BK177.out 10).trans rfl
              have hcz13_11 : w5.cell? ⟨gb177, 11, none⟩ = some (.bool a0_11) := (blk_cell BK177.out 11).trans rfl
              have hcz13_12 : w5.cell? ⟨gb177, 12, none⟩ = some (.slice A0_12 l0_12.length c0_12) := (blk_cell BK177.out 12).trans rfl
              have hfz13_0 := blk_frozen BK177.out 0
              have hfz13_1 := blk_frozen BK177.out 1
              have hfz13_2 := blk_frozen BK177.out 2
              have hfz13_3 := blk_frozen BK177.out 3
              have hfz13_4 := blk_frozen BK177.out 4
              have hfz13_5 := blk_frozen BK177.out 5
              have hfz13_6 := blk_frozen BK177.out 6
              have hfz13_7 := blk_frozen BK177.out 7
              have hfz13_8 := blk_frozen BK177.out 8
              have hfz13_9 := blk_frozen BK177.out 9
              have hfz13_10 := blk_frozen BK177.out 10
              have hfz13_11 := blk_frozen BK177.out 11
              have hfz13_12 := blk_frozen BK177.out 12
              go_wp2_with (first | (go_at_call 35; (with_reducible refine (desc_Name.calls k a0_0 true _ A8.out).mono ?_); rintro e w' ⟨rfl, ⟨nd, rfl⟩⟩))
              go_meet
              case rel => exact ⟨_, ((a0_1.toList != ([] : List UInt8))), (by first | rfl | (simp; done) | (simp [*]; done) | (cases h_ : a0_1.toList <;> first | rfl | (simp; done))), H', ⟨by first | omega | exact Nat.le_refl _⟩, ⟨by (with_reducible repeat (first | refine blk_drewN ?_ _ | refine blk_drew ?_ | refine blk_alloc ?_ _)); exact BK177.out⟩, ⟨by repeat (first | (with_reducible first | exact HB.out | apply below_alloc | apply pw_below_drewN | apply below_drew1 | refine below_set ?_ GE177.out) | exact HB.out)⟩⟩
            · replace c12 := Bool.eq_false_iff.mpr c12
              subst c12
              have H1 : (config_may.j0 k false a0_0 a0_1 false a0_3 a0_4 a0_5 a0_6 a0_7 a0_8 a0_9 a0_10 a0_11 l0_12) = some r := by rw [if_neg (show ¬ (false = true) by decide)] at H; exact H
              clear H
              have H := H1
              clear H1
              have H' := Aside0.mk H
              clear H
              have hcz14_0 : w5.cell? ⟨gb177, 0, none⟩ = some (.string a0_0) := (blk_cell BK177.out 0).trans rfl
              have hcz14_1 : w5.cell? ⟨gb177, 1, none⟩ = some (.string a0_1) := (blk_cell BK177.out 1).trans rfl
              have hcz14_2 : w5.cell? ⟨gb177, 2, none⟩ = some (.bool false) := (blk_cell BK177.out 2).trans rfl
              have hcz14_3 : w5.cell? ⟨gb177, 3, none⟩ = some (.int .i64 a0_3) := (blk_cell BK177.out 3).trans rfl
              have hcz14_4 : w5.cell? ⟨gb177, 4, none⟩ = some (.int .i64 a0_4) := (blk_cell BK177.out 4).trans rfl
              have hcz14_5 : w5.cell? ⟨gb177, 5, none⟩ = some (.bool a0_5) := (blk_cell BK177.out 5).trans rfl
              have hcz14_6 : w5.cell? ⟨gb177, 6, none⟩ = some (.string a0_6) := (blk_cell BK177.out 6).trans rfl
              have hcz14_7 : w5.cell? ⟨gb177, 7, none⟩ = some (.int .i64 a0_7) := (blk_cell BK177.out 7).trans rfl
              have hcz14_8 : w5.cell? ⟨gb177, 8, none⟩ = some (.int .i64 a0_8) := (blk_cell BK177.out 8).trans rfl
              have hcz14_9 : w5.cell? ⟨gb177, 9, none⟩ = some (.float .f64 a0_9) := (blk_cell BK177.out 9).trans rfl
              have hcz14_10 : w5.cell? ⟨gb177, 10, none⟩ = some (.bool a0_10) := (blk_cell BK177.out 10).trans rfl
              have hcz14_11 : w5.cell? ⟨gb177, 11, none⟩ = some (.bool a0_11) := (blk_cell BK177.out 11).trans rfl
              have hcz14_12 : w5.cell? ⟨gb177, 12, none⟩ = some (.slice A0_12 l0_12.length c0_12) := (blk_cell BK177.out 12).trans rfl
              have hfz14_0 := blk_frozen BK177.out 0
              have hfz14_1 := blk_frozen BK177.out 1
              have hfz14_2 := blk_frozen BK177.out 2
              have hfz14_3 := blk_frozen BK177.out 3
              have hfz14_4 := blk_frozen BK177.out 4
              have hfz14_5 := blk_frozen BK177.out 5
              have hfz14_6 := blk_frozen BK177.out 6
              have hfz14_7 := blk_frozen BK177.out 7
              have hfz14_8 := blk_frozen BK177.out 8
              have hfz14_9 := blk_frozen BK177.out 9
              have hfz14_10 := blk_frozen BK177.out 10
              have hfz14_11 := blk_frozen BK177.out 11
              have hfz14_12 := blk_frozen BK177.out 12
              go_wp2_with (first | (go_at_call 35; (with_reducible refine (desc_Name.calls k a0_0 true _ A8.out).mono ?_); rintro e w' ⟨rfl, ⟨nd, rfl⟩⟩))
              go_meet
              case rel => exact ⟨_, (false), (by first | rfl | (simp; done) | (simp [*]; done)), H', ⟨by first | omega | exact Nat.le_refl _⟩, ⟨by (with_reducible repeat (first | refine blk_drewN ?_ _ | refine blk_drew ?_ | refine blk_alloc ?_ _)); exact BK177.out⟩, ⟨by repeat (first | (with_reducible first | exact HB.out | apply below_alloc | apply pw_below_drewN | apply below_drew1 | refine below_set ?_ GE177.out) | exact HB.out)⟩⟩
        · replace c9 := Bool.eq_false_iff.mpr c9
          subst c9
          have H1 : (config_may.j0 k true a0_0 a0_1 a0_2 a0_3 a0_4 a0_5 a0_6 a0_7 a0_8 a0_9 a0_10 a0_11 l0_12) = some r := by rw [if_neg (show ¬ (false = true) by decide)] at H; exact H
          clear H
          have H := H1
          clear H1
          have H' := Aside0.mk H
          clear H
          have hcz15_0 : w5.cell? ⟨gb177, 0, none⟩ = some (.string a0_0) := (blk_cell BK177.out 0).trans rfl
          have hcz15_1 : w5.cell? ⟨gb177, 1, none⟩ = some (.string a0_1) := (blk_cell BK177.out 1).trans rfl
          have hcz15_2 : w5.cell? ⟨gb177, 2, none⟩ = some (.bool a0_2) := (blk_cell BK177.out 2).trans rfl
          have hcz15_3 : w5.cell? ⟨gb177, 3, none⟩ = some (.int .i64 a0_3) := (blk_cell BK177.out 3).trans rfl
          have hcz15_4 : w5.cell? ⟨gb177, 4, none⟩ = some (.int .i64 a0_4) := (blk_cell BK177.out 4).trans rfl
          have hcz15_5 : w5.cell? ⟨gb177, 5, none⟩ = some (.bool a0_5) := (blk_cell BK177.out 5).trans rfl
          have hcz15_6 : w5.cell? ⟨gb177, 6, none⟩ = some (.string a0_6) := (blk_cell BK177.out 6).trans rfl
          have hcz15_7 : w5.cell? ⟨gb177, 7, none⟩ = some (.int .i64 a0_7) := (blk_cell BK177.out 7).trans rfl
          have hcz15_8 : w5.cell? ⟨gb177, 8, none⟩ = some (.int .i64 a0_8) := (blk_cell BK177.out 8).trans rfl
          have hcz15_9 : w5.cell? ⟨gb177, 9, none⟩ = some (.float .f64 a0_9) := (blk_cell BK177.out 9).trans rfl
          have hcz15_10 : w5.cell? ⟨gb177, 10, none⟩ = some (.bool a0_10) := (blk_cell BK177.out 10).trans rfl
          have hcz15_11 : w5.cell? ⟨gb177, 11, none⟩ = some (.bool a0_11) := (blk_cell BK177.out 11).trans rfl
          have hcz15_12 : w5.cell? ⟨gb177, 12, none⟩ = some (.slice A0_12 l0_12.length c0_12) := (blk_cell BK177.out 12).trans rfl
          have hfz15_0 := blk_frozen BK177.out 0
          have hfz15_1 := blk_frozen BK177.out 1
          have hfz15_2 := blk_frozen BK177.out 2
          have hfz15_3 := blk_frozen BK177.out 3
          have hfz15_4 := blk_frozen BK177.out 4
          have hfz15_5 := blk_frozen BK177.out 5
          have hfz15_6 := blk_frozen BK177.out 6
          have hfz15_7 := blk_frozen BK177.out 7
          have hfz15_8 := blk_frozen BK177.out 8
          have hfz15_9 := blk_frozen BK177.out 9
          have hfz15_10 := blk_frozen BK177.out 10
          have hfz15_11 := blk_frozen BK177.out 11
          have hfz15_12 := blk_frozen BK177.out 12
          go_wp2_with (first | (go_at_call 35; (with_reducible refine (desc_Name.calls k a0_0 false _ A8.out).mono ?_); rintro e w' ⟨rfl, ⟨nd, rfl⟩⟩))
          go_meet
          case rel => exact ⟨_, (true), (by first | rfl | (simp; done) | (simp [*]; done)), H', ⟨by first | omega | exact Nat.le_refl _⟩, ⟨by (with_reducible repeat (first | refine blk_drewN ?_ _ | refine blk_drew ?_ | refine blk_alloc ?_ _)); exact BK177.out⟩, ⟨by repeat (first | (with_reducible first | exact HB.out | apply below_alloc | apply pw_below_drewN | apply below_drew1 | refine below_set ?_ GE177.out) | exact HB.out)⟩⟩
      · rw [if_neg c7] at H
        have c7b0 : (a0_4 == a2) = false := beq_eq_false_iff_ne.mpr c7
        have c7b1 : (a0_4 != a2) = true := bne_iff_ne.mpr c7
        have H' := Aside0.mk H
        clear H
        have hcz16_0 : w5.cell? ⟨gb177, 0, none⟩ = some (.string a0_0) := (blk_cell BK177.out 0).trans rfl
        have hcz16_1 : w5.cell? ⟨gb177, 1, none⟩ = some (.string a0_1) := (blk_cell BK177.out 1).trans rfl
        have hcz16_2 : w5.cell? ⟨gb177, 2, none⟩ = some (.bool a0_2) := (blk_cell BK177.out 2).trans rfl
        have hcz16_3 : w5.cell? ⟨gb177, 3, none⟩ = some (.int .i64 a0_3) := (blk_cell BK177.out 3).trans rfl
        have hcz16_4 : w5.cell? ⟨gb177, 4, none⟩ = some (.int .i64 a0_4) := (blk_cell BK177.out 4).trans rfl
        have hcz16_5 : w5.cell? ⟨gb177, 5, none⟩ = some (.bool a0_5) := (blk_cell BK177.out 5).trans rfl
        have hcz16_6 : w5.cell? ⟨gb177, 6, none⟩ = some (.string a0_6) := (blk_cell BK177.out 6).trans rfl
        have hcz16_7 : w5.cell? ⟨gb177, 7, none⟩ = some (.int .i64 a0_7) := (blk_cell BK177.out 7).trans rfl
        have hcz16_8 : w5.cell? ⟨gb177, 8, none⟩ = some (.int .i64 a0_8) := (blk_cell BK177.out 8).trans rfl
        have hcz16_9 : w5.cell? ⟨gb177, 9, none⟩ = some (.float .f64 a0_9) := (blk_cell BK177.out 9).trans rfl
        have hcz16_10 : w5.cell? ⟨gb177, 10, none⟩ = some (.bool a0_10) := (blk_cell BK177.out 10).trans rfl
        have hcz16_11 : w5.cell? ⟨gb177, 11, none⟩ = some (.bool a0_11) := (blk_cell BK177.out 11).trans rfl
        have hcz16_12 : w5.cell? ⟨gb177, 12, none⟩ = some (.slice A0_12 l0_12.length c0_12) := (blk_cell BK177.out 12).trans rfl
        have hfz16_0 := blk_frozen BK177.out 0
        have hfz16_1 := blk_frozen BK177.out 1
        have hfz16_2 := blk_frozen BK177.out 2
        have hfz16_3 := blk_frozen BK177.out 3
        have hfz16_4 := blk_frozen BK177.out 4
        have hfz16_5 := blk_frozen BK177.out 5
        have hfz16_6 := blk_frozen BK177.out 6
        have hfz16_7 := blk_frozen BK177.out 7
        have hfz16_8 := blk_frozen BK177.out 8
        have hfz16_9 := blk_frozen BK177.out 9
        have hfz16_10 := blk_frozen BK177.out 10
        have hfz16_11 := blk_frozen BK177.out 11
        have hfz16_12 := blk_frozen BK177.out 12
        go_wp2
        go_meet
        case rel => exact ⟨_, (true), (by first | rfl | (simp; done) | (simp [*]; done)), H', ⟨by first | omega | exact Nat.le_refl _⟩, ⟨by (with_reducible repeat (first | refine blk_drewN ?_ _ | refine blk_drew ?_ | refine blk_alloc ?_ _)); exact BK177.out⟩, ⟨by repeat (first | (with_reducible first | exact HB.out | apply below_alloc | apply pw_below_drewN | apply below_drew1 | refine below_set ?_ GE177.out) | exact HB.out)⟩⟩
    · rw [if_neg c6] at H
      have c6b0 : (a0_3 == a1) = false := beq_eq_false_iff_ne.mpr c6
      have c6b1 : (a0_3 != a1) = true := bne_iff_ne.mpr c6
      (first | rw [c6b0] | (simp only [i64_w, i32_w]; rw [c6b0]) | skip)
      have H' := Aside0.mk H
      clear H
      have hcz17_0 : w5.cell? ⟨gb177, 0, none⟩ = some (.string a0_0) := (blk_cell BK177.out 0).trans rfl
      have hcz17_1 : w5.cell? ⟨gb177, 1, none⟩ = some (.string a0_1) := (blk_cell BK177.out 1).trans rfl
      have hcz17_2 : w5.cell? ⟨gb177, 2, none⟩ = some (.bool a0_2) := (blk_cell BK177.out 2).trans rfl
      have hcz17_3 : w5.cell? ⟨gb177, 3, none⟩ = some (.int .i64 a0_3) := (blk_cell BK177.out 3).trans rfl
      have hcz17_4 : w5.cell? ⟨gb177, 4, none⟩ = some (.int .i64 a0_4) := (blk_cell BK177.out 4).trans rfl
      have hcz17_5 : w5.cell? ⟨gb177, 5, none⟩ = some (.bool a0_5) := (blk_cell BK177.out 5).trans rfl
      have hcz17_6 : w5.cell? ⟨gb177, 6, none⟩ = some (.string a0_6) := (blk_cell BK177.out 6).trans rfl
      have hcz17_7 : w5.cell? ⟨gb177, 7, none⟩ = some (.int .i64 a0_7) := (blk_cell BK177.out 7).trans rfl
      have hcz17_8 : w5.cell? ⟨gb177, 8, none⟩ = some (.int .i64 a0_8) := (blk_cell BK177.out 8).trans rfl
      have hcz17_9 : w5.cell? ⟨gb177, 9, none⟩ = some (.float .f64 a0_9) := (blk_cell BK177.out 9).trans rfl
      have hcz17_10 : w5.cell? ⟨gb177, 10, none⟩ = some (.bool a0_10) := (blk_cell BK177.out 10).trans rfl
      have hcz17_11 : w5.cell? ⟨gb177, 11, none⟩ = some (.bool a0_11) := (blk_cell BK177.out 11).trans rfl
      have hcz17_12 : w5.cell? ⟨gb177, 12, none⟩ = some (.slice A0_12 l0_12.length c0_12) := (blk_cell BK177.out 12).trans rfl
      have hfz17_0 := blk_frozen BK177.out 0
      have hfz17_1 := blk_frozen BK177.out 1
      have hfz17_2 := blk_frozen BK177.out 2
      have hfz17_3 := blk_frozen BK177.out 3
      have hfz17_4 := blk_frozen BK177.out 4
      have hfz17_5 := blk_frozen BK177.out 5
      have hfz17_6 := blk_frozen BK177.out 6
      have hfz17_7 := blk_frozen BK177.out 7
      have hfz17_8 := blk_frozen BK177.out 8
      have hfz17_9 := blk_frozen BK177.out 9
      have hfz17_10 := blk_frozen BK177.out 10
      have hfz17_11 := blk_frozen BK177.out 11
      have hfz17_12 := blk_frozen BK177.out 12
      go_wp2
      go_meet
      case rel => exact ⟨_, (true), (by first | rfl | (simp; done) | (simp [*]; done)), H', ⟨by first | omega | exact Nat.le_refl _⟩, ⟨by (with_reducible repeat (first | refine blk_drewN ?_ _ | refine blk_drew ?_ | refine blk_alloc ?_ _)); exact BK177.out⟩, ⟨by repeat (first | (with_reducible first | exact HB.out | apply below_alloc | apply pw_below_drewN | apply below_drew1 | refine below_set ?_ GE177.out) | exact HB.out)⟩⟩
  case rest =>
    clear HC4
    try clear c1
    try clear p2
    try clear c4
    try clear c6
    try clear c6b0
    try clear c6b1
    try clear c7
    try clear c7b0
    try clear c7b1
    try clear c9
    try clear c10
    try clear c10b0
    try clear c10b1
    try clear c12
    try clear hcz11_0
    try clear hcz11_1
    try clear hcz11_10
    try clear hcz11_11
    try clear hcz11_12
    try clear hcz11_2
    try clear hcz11_3
    try clear hcz11_4
    try clear hcz11_5
    try clear hcz11_6
    try clear hcz11_7
    try clear hcz11_8
    try clear hcz11_9
    try clear hcz13_0
    try clear hcz13_1
    try clear hcz13_10
    try clear hcz13_11
    try clear hcz13_12
    try clear hcz13_2
    try clear hcz13_3
    try clear hcz13_4
    try clear hcz13_5
    try clear hcz13_6
    try clear hcz13_7
    try clear hcz13_8
    try clear hcz13_9
    try clear hcz14_0
    try clear hcz14_1
    try clear hcz14_10
    try clear hcz14_11
    try clear hcz14_12
    try clear hcz14_2
    try clear hcz14_3
    try clear hcz14_4
    try clear hcz14_5
    try clear hcz14_6
    try clear hcz14_7
    try clear hcz14_8
    try clear hcz14_9
    try clear hcz15_0
    try clear hcz15_1
    try clear hcz15_10
    try clear hcz15_11
    try clear hcz15_12
    try clear hcz15_2
    try clear hcz15_3
    try clear hcz15_4
    try clear hcz15_5
    try clear hcz15_6
    try clear hcz15_7
    try clear hcz15_8
    try clear hcz15_9
    try clear hcz16_0
    try clear hcz16_1
    try clear hcz16_10
    try clear hcz16_11
    try clear hcz16_12
    try clear hcz16_2
    try clear hcz16_3
    try clear hcz16_4
    try clear hcz16_5
    try clear hcz16_6
    try clear hcz16_7
    try clear hcz16_8
    try clear hcz16_9
    try clear hcz17_0
    try clear hcz17_1
    try clear hcz17_10
    try clear hcz17_11
    try clear hcz17_12
    try clear hcz17_2
    try clear hcz17_3
    try clear hcz17_4
    try clear hcz17_5
    try clear hcz17_6
    try clear hcz17_7
    try clear hcz17_8
    try clear hcz17_9
    try clear hfz11_0
    try clear hfz11_1
    try clear hfz11_10
    try clear hfz11_11
    try clear hfz11_12
    try clear hfz11_2
    try clear hfz11_3
    try clear hfz11_4
    try clear hfz11_5
    try clear hfz11_6
    try clear hfz11_7
    try clear hfz11_8
    try clear hfz11_9
    try clear hfz13_0
    try clear hfz13_1
    try clear hfz13_10
    try clear hfz13_11
    try clear hfz13_12
    try clear hfz13_2
    try clear hfz13_3
    try clear hfz13_4
    try clear hfz13_5
    try clear hfz13_6
    try clear hfz13_7
    try clear hfz13_8
    try clear hfz13_9
    try clear hfz14_0
    try clear hfz14_1
    try clear hfz14_10
    try clear hfz14_11
    try clear hfz14_12
    try clear hfz14_2
    try clear hfz14_3
    try clear hfz14_4
    try clear hfz14_5
    try clear hfz14_6
    try clear hfz14_7
    try clear hfz14_8
    try clear hfz14_9
    try clear hfz15_0
    try clear hfz15_1
    try clear hfz15_10
    try clear hfz15_11
    try clear hfz15_12
    try clear hfz15_2
    try clear hfz15_3
    try clear hfz15_4
    try clear hfz15_5
    try clear hfz15_6
    try clear hfz15_7
    try clear hfz15_8
    try clear hfz15_9
    try clear hfz16_0
    try clear hfz16_1
    try clear hfz16_10
    try clear hfz16_11
    try clear hfz16_12
    try clear hfz16_2
    try clear hfz16_3
    try clear hfz16_4
    try clear hfz16_5
    try clear hfz16_6
    try clear hfz16_7
    try clear hfz16_8
    try clear hfz16_9
    try clear hfz17_0
    try clear hfz17_1
    try clear hfz17_10
    try clear hfz17_11
    try clear hfz17_12
    try clear hfz17_2
    try clear hfz17_3
    try clear hfz17_4
    try clear hfz17_5
    try clear hfz17_6
    try clear hfz17_7
    try clear hfz17_8
    try clear hfz17_9
    obtain ⟨kq, x37_3, rfl, HA, HJ3, BK177, HB⟩ := hcut
    cases kq with
    | zero => exact absurd HA.out (by simp [config_may.j0])
    | succ kj3 =>
      have H := HA.out
      clear HA
      simp only [config_may.j0] at H
      by_cases c18 : x37_3 = true
      · subst c18
        have H1 : (some false) = some r := by rw [if_pos rfl] at H; exact H
        clear H
        have H := H1
        clear H1
        obtain rfl := Option.some.inj H
        go_wp2
        go_ret
        exact ⟨by first | rfl | (simp [errW_none, errW_some] <;> rfl) | (simp [*, errW_none, errW_some] <;> rfl), by repeat (first | (with_reducible first | exact HB.out | apply below_alloc | apply pw_below_drewN | apply below_drew1 | refine below_set ?_ GE177.out) | exact HB.out)⟩
      · replace c18 := Bool.eq_false_iff.mpr c18
        subst c18
        have H1 : (if a0_5 = true then ((rule_Check.f kj3 a0_6 a0_7 a0_8 a0_9 a0_10 a0_11).bind fun t179 => (some (t179 == 0))) else ((rule_Same.f a0_6 a0_7 a0_8 a0_9 a0_10 a0_11 (⟨#[]⟩ : ByteArray) 0 0 0 false false).bind fun t180 => (some t180))) = some r := by rw [if_neg (show ¬ (false = true) by decide)] at H; exact H
        clear H
        have H := H1
        clear H1
        by_cases c19 : a0_5 = true
        · subst c19
          have H1 : ((rule_Check.f kj3 a0_6 a0_7 a0_8 a0_9 a0_10 a0_11).bind fun t179 => (some (t179 == 0))) = some r := by rw [if_pos rfl] at H; exact H
          clear H
          have H := H1
          clear H1
          replace H := Option.bind_eq_some_iff.mp H
          obtain ⟨t179, A200, H⟩ := H
          replace H : (some (t179 == 0)) = some r := H
          have A20 := Aside0.mk A200
          clear A200
          obtain rfl := Option.some.inj H
          have hcz21_0 : wc.cell? ⟨gb177, 0, none⟩ = some (.string a0_0) := (blk_cell BK177.out 0).trans rfl
          have hcz21_1 : wc.cell? ⟨gb177, 1, none⟩ = some (.string a0_1) := (blk_cell BK177.out 1).trans rfl
          have hcz21_2 : wc.cell? ⟨gb177, 2, none⟩ = some (.bool a0_2) := (blk_cell BK177.out 2).trans rfl
          have hcz21_3 : wc.cell? ⟨gb177, 3, none⟩ = some (.int .i64 a0_3) := (blk_cell BK177.out 3).trans rfl
          have hcz21_4 : wc.cell? ⟨gb177, 4, none⟩ = some (.int .i64 a0_4) := (blk_cell BK177.out 4).trans rfl
          have hcz21_5 : wc.cell? ⟨gb177, 5, none⟩ = some (.bool true) := (blk_cell BK177.out 5).trans rfl
          have hcz21_6 : wc.cell? ⟨gb177, 6, none⟩ = some (.string a0_6) := (blk_cell BK177.out 6).trans rfl
          have hcz21_7 : wc.cell? ⟨gb177, 7, none⟩ = some (.int .i64 a0_7) := (blk_cell BK177.out 7).trans rfl
          have hcz21_8 : wc.cell? ⟨gb177, 8, none⟩ = some (.int .i64 a0_8) := (blk_cell BK177.out 8).trans rfl
          have hcz21_9 : wc.cell? ⟨gb177, 9, none⟩ = some (.float .f64 a0_9) := (blk_cell BK177.out 9).trans rfl
          have hcz21_10 : wc.cell? ⟨gb177, 10, none⟩ = some (.bool a0_10) := (blk_cell BK177.out 10).trans rfl
          have hcz21_11 : wc.cell? ⟨gb177, 11, none⟩ = some (.bool a0_11) := (blk_cell BK177.out 11).trans rfl
          have hcz21_12 : wc.cell? ⟨gb177, 12, none⟩ = some (.slice A0_12 l0_12.length c0_12) := (blk_cell BK177.out 12).trans rfl
          have hfz21_0 := blk_frozen BK177.out 0
          have hfz21_1 := blk_frozen BK177.out 1
          have hfz21_2 := blk_frozen BK177.out 2
          have hfz21_3 := blk_frozen BK177.out 3
          have hfz21_4 := blk_frozen BK177.out 4
          have hfz21_5 := blk_frozen BK177.out 5
          have hfz21_6 := blk_frozen BK177.out 6
          have hfz21_7 := blk_frozen BK177.out 7
          have hfz21_8 := blk_frozen BK177.out 8
          have hfz21_9 := blk_frozen BK177.out 9
          have hfz21_10 := blk_frozen BK177.out 10
          have hfz21_11 := blk_frozen BK177.out 11
          have hfz21_12 := blk_frozen BK177.out 12
          go_wp2_with (first | ((with_reducible refine gate_callee (f := 54) rfl ?_); refine goesL_ (some 42) rfl rfl Try.func54 (by kernel_rfl) rfl #[.agg #[.string a0_6, .int .i64 a0_7, .int .i64 a0_8, .float .f64 a0_9, .bool a0_10, .bool a0_11]] rfl (by (try simp only [List.map_toArray, List.map_cons, List.map_nil]); first | done | rfl | (simp only [List.length_drop, List.length_take]; rfl)) ?_; (with_reducible refine (rule_Check.calls kj3 a0_6 a0_7 a0_8 a0_9 a0_10 a0_11 t179 _ A20.out).mono ?_); rintro e w22 ⟨rfl, hb⟩; refine ⟨_, rfl, ?_⟩; have n0_ := Aside0.mk (blk_below (g := gb177) (o := .cells #[.string a0_0, .string a0_1, .bool a0_2, .int .i64 a0_3, .int .i64 a0_4, .bool true, .string a0_6, .int .i64 a0_7, .int .i64 a0_8, .float .f64 a0_9, .bool a0_10, .bool a0_11, .slice A0_12 l0_12.length c0_12] 46 (0, 0)) (by (with_reducible repeat (first | refine blk_drewN ?_ _ | refine blk_drew ?_ | refine blk_alloc ?_ _)); exact BK177.out) hb); have n1_ := Aside0.mk (below_step (by repeat (first | (with_reducible first | exact HB.out | apply below_alloc | apply pw_below_drewN | apply below_drew1 | refine below_set ?_ GE177.out) | exact HB.out)) hb); clear BK177; clear HB; have BK177 := n0_; have HB := n1_; clear n0_ n1_; (try clear hb); (try clear hb2); (try clear hk); (try clear hi)))
          go_ret
          exact ⟨by first | rfl | (simp [errW_none, errW_some] <;> rfl) | (simp [*, errW_none, errW_some] <;> rfl), by repeat (first | (with_reducible first | exact HB.out | apply below_alloc | apply pw_below_drewN | apply below_drew1 | refine below_set ?_ GE177.out) | exact HB.out)⟩
        · replace c19 := Bool.eq_false_iff.mpr c19
          subst c19
          have H1 : ((rule_Same.f a0_6 a0_7 a0_8 a0_9 a0_10 a0_11 (⟨#[]⟩ : ByteArray) 0 0 0 false false).bind fun t180 => (some t180)) = some r := by rw [if_neg (show ¬ (false = true) by decide)] at H; exact H
          clear H
          have H := H1
          clear H1
          replace H := Option.bind_eq_some_iff.mp H
          obtain ⟨t180, A230, H⟩ := H
          replace H : (some t180) = some r := H
          have A23 := Aside0.mk A230
          clear A230
          obtain rfl := Option.some.inj H
          have hcz24_0 : wc.cell? ⟨gb177, 0, none⟩ = some (.string a0_0) := (blk_cell BK177.out 0).trans rfl
          have hcz24_1 : wc.cell? ⟨gb177, 1, none⟩ = some (.string a0_1) := (blk_cell BK177.out 1).trans rfl
          have hcz24_2 : wc.cell? ⟨gb177, 2, none⟩ = some (.bool a0_2) := (blk_cell BK177.out 2).trans rfl
          have hcz24_3 : wc.cell? ⟨gb177, 3, none⟩ = some (.int .i64 a0_3) := (blk_cell BK177.out 3).trans rfl
          have hcz24_4 : wc.cell? ⟨gb177, 4, none⟩ = some (.int .i64 a0_4) := (blk_cell BK177.out 4).trans rfl
          have hcz24_5 : wc.cell? ⟨gb177, 5, none⟩ = some (.bool false) := (blk_cell BK177.out 5).trans rfl
          have hcz24_6 : wc.cell? ⟨gb177, 6, none⟩ = some (.string a0_6) := (blk_cell BK177.out 6).trans rfl
          have hcz24_7 : wc.cell? ⟨gb177, 7, none⟩ = some (.int .i64 a0_7) := (blk_cell BK177.out 7).trans rfl
          have hcz24_8 : wc.cell? ⟨gb177, 8, none⟩ = some (.int .i64 a0_8) := (blk_cell BK177.out 8).trans rfl
          have hcz24_9 : wc.cell? ⟨gb177, 9, none⟩ = some (.float .f64 a0_9) := (blk_cell BK177.out 9).trans rfl
          have hcz24_10 : wc.cell? ⟨gb177, 10, none⟩ = some (.bool a0_10) := (blk_cell BK177.out 10).trans rfl
          have hcz24_11 : wc.cell? ⟨gb177, 11, none⟩ = some (.bool a0_11) := (blk_cell BK177.out 11).trans rfl
          have hcz24_12 : wc.cell? ⟨gb177, 12, none⟩ = some (.slice A0_12 l0_12.length c0_12) := (blk_cell BK177.out 12).trans rfl
          have hfz24_0 := blk_frozen BK177.out 0
          have hfz24_1 := blk_frozen BK177.out 1
          have hfz24_2 := blk_frozen BK177.out 2
          have hfz24_3 := blk_frozen BK177.out 3
          have hfz24_4 := blk_frozen BK177.out 4
          have hfz24_5 := blk_frozen BK177.out 5
          have hfz24_6 := blk_frozen BK177.out 6
          have hfz24_7 := blk_frozen BK177.out 7
          have hfz24_8 := blk_frozen BK177.out 8
          have hfz24_9 := blk_frozen BK177.out 9
          have hfz24_10 := blk_frozen BK177.out 10
          have hfz24_11 := blk_frozen BK177.out 11
          have hfz24_12 := blk_frozen BK177.out 12
          go_wp2_with (first | ((with_reducible refine gate_callee (f := 55) rfl ?_); refine goesL_ (some 47) rfl rfl Try.func55 (by kernel_rfl) rfl #[.agg #[.string a0_6, .int .i64 a0_7, .int .i64 a0_8, .float .f64 a0_9, .bool a0_10, .bool a0_11], .agg #[.string (⟨#[]⟩ : ByteArray), .int .i64 0, .int .i64 0, .float .f64 0, .bool false, .bool false]] rfl (by (try simp only [List.map_toArray, List.map_cons, List.map_nil]); first | done | rfl | (simp only [List.length_drop, List.length_take]; rfl)) ?_; (with_reducible refine (rule_Same.calls a0_6 a0_7 a0_8 a0_9 a0_10 a0_11 (⟨#[]⟩ : ByteArray) 0 0 0 false false t180 _ A23.out).mono ?_); rintro e w25 ⟨rfl, hb⟩; refine ⟨_, rfl, ?_⟩; have n0_ := Aside0.mk (blk_below (g := gb177) (o := .cells #[.string a0_0, .string a0_1, .bool a0_2, .int .i64 a0_3, .int .i64 a0_4, .bool false, .string a0_6, .int .i64 a0_7, .int .i64 a0_8, .float .f64 a0_9, .bool a0_10, .bool a0_11, .slice A0_12 l0_12.length c0_12] 46 (0, 0)) (by (with_reducible repeat (first | refine blk_drewN ?_ _ | refine blk_drew ?_ | refine blk_alloc ?_ _)); exact BK177.out) hb); have n1_ := Aside0.mk (below_step (by repeat (first | (with_reducible first | exact HB.out | apply below_alloc | apply pw_below_drewN | apply below_drew1 | refine below_set ?_ GE177.out) | exact HB.out)) hb); clear BK177; clear HB; have BK177 := n0_; have HB := n1_; clear n0_ n1_; (try clear hb); (try clear hb2); (try clear hk); (try clear hi)))
          go_ret
          exact ⟨by first | rfl | (simp [errW_none, errW_some] <;> rfl) | (simp [*, errW_none, errW_some] <;> rfl), by repeat (first | (with_reducible first | exact HB.out | apply below_alloc | apply pw_below_drewN | apply below_drew1 | refine below_set ?_ GE177.out) | exact HB.out)⟩
end Go.Proofs.Ytipbigdpannlcaa.PTrieFits
