/- What the law TrieRaw uses, thinned: printed by shake2.py. -/
import Derived.Test.YtipbigdpannlcaaTTrieRawPTrieFitsx0
import Derived.Test.YtipbigdpannlcaaTTrieRawPTrieFitsx10
import Derived.Test.YtipbigdpannlcaaTTrieRawPTrieFitsx11
namespace Go.Proofs.Ytipbigdpannlcaa.PTrieFits
open Go.RowKit Go.Proofs.YtipbigdpannlcaaW.PrintWords Go.Proofs.YtipbigdpannlcaaW.PrintLast Go.Proofs.YtipbigdpannlcaaW.PrintMore
attribute [local go_sem] max2_int min2_int max_two min_two max_three min_three max_four min_four
set_option linter.unusedVariables false
set_option linter.unusedSimpArgs false
mutual
def turncockref15_CheckRule.j0 : Nat → Bool → ByteArray → Int → Int → Nat → Bool → Bool → Option (Bool)
  | 0, _, _, _, _, _, _, _ => none
  | k + 1, x13, x301000, x301001, x301002, x301003, x301004, x301005 => if x13 = true then (some false) else (if x301005 = true then (if x301001 = 0 then (if x301002 = 0 then ((turncockref1_Alike.f k x301003 0).bind fun t302 => (some t302)) else (some false)) else (some false)) else ((turncockref15_Secs.f x301001).bind fun t303 => (if t303 = 0 then (turncockref15_CheckRule.j1 k true x301000 x301001 x301002 x301003 x301004 x301005) else (if x301002 < 0 then (turncockref15_CheckRule.j1 k true x301000 x301001 x301002 x301003 x301004 x301005) else (turncockref15_CheckRule.j1 k (decide (x301002 > 4294967295)) x301000 x301001 x301002 x301003 x301004 x301005)))))
def turncockref15_CheckRule.j1 : Nat → Bool → ByteArray → Int → Int → Nat → Bool → Bool → Option (Bool)
  | 0, _, _, _, _, _, _, _ => none
  | k + 1, x42, x301000, x301001, x301002, x301003, x301004, x301005 => if x42 = true then (some false) else ((turncockref1_Order.f k x301003 0).bind fun t304 => (if t304 < 0 then (some false) else ((turncockref1_Order.f k x301003 4607182418800017408).bind fun t305 => (if t305 > 0 then (some false) else ((turncockref1_Write.f k x301003).bind fun bt306 => (some bt306.2))))))
end
def turncockref15_CheckRule.f (k : Nat) (a0_0 : ByteArray) (a0_1 : Int) (a0_2 : Int) (a0_3 : Nat) (a0_4 : Bool) (a0_5 : Bool) : Option (Bool) := if a0_0.toList = ([] : List UInt8) then (turncockref15_CheckRule.j0 k false a0_0 a0_1 a0_2 a0_3 a0_4 a0_5) else ((turncockref1_Name.f k a0_0).bind fun t301 => (turncockref15_CheckRule.j0 k (!t301) a0_0 a0_1 a0_2 a0_3 a0_4 a0_5))
set_option maxHeartbeats 8000000 in
set_option maxRecDepth 100000 in
theorem turncockref15_CheckRule.calls (k : Nat) (a0_0 : ByteArray) (a0_1 : Int) (a0_2 : Int) (a0_3 : Nat) (a0_4 : Bool) (a0_5 : Bool) (r : Bool) (w : World) (h : turncockref15_CheckRule.f k a0_0 a0_1 a0_2 a0_3 a0_4 a0_5 = some r) :
    Calls Try.prog 49 #[.agg #[.string a0_0, .int .i64 a0_1, .int .i64 a0_2, .float .f64 a0_3, .bool a0_4, .bool a0_5]] w fun e w' => e = .returned (.bool r) ∧ Below w.heap.size w w' := by
  have hu44 := Try.underlying44
  have HB := Aside0.mk (Below.refl w.heap.size w)
  have H : (if a0_0.toList = ([] : List UInt8) then (turncockref15_CheckRule.j0 k false a0_0 a0_1 a0_2 a0_3 a0_4 a0_5) else ((turncockref1_Name.f k a0_0).bind fun t301 => (turncockref15_CheckRule.j0 k (!t301) a0_0 a0_1 a0_2 a0_3 a0_4 a0_5))) = some r := h
  clear h
  have HC2 := Aside0.mk H
  clear H
  go_enter Try.func49, Try.ntmps49
  go_upto_region 1 with (first | ((with_reducible refine gate_dst (N := 1) rfl ?_); refine box_event ?hg (N := 1) ?hd (cs := #[.string a0_0, .int .i64 a0_1, .int .i64 a0_2, .float .f64 a0_3, .bool a0_4, .bool a0_5]) (t := 44) ?hr ?_; (case hd => rfl); (case hg => rfl); (case hr => first | (go_simp; done) | (go_simp; rfl)); intro gb300 hg w3 hbox hb; have n0_ := Aside0.mk (below_step (by repeat (first | (with_reducible first | exact HB.out | apply below_alloc | apply pw_below_drewN | apply below_drew1) | exact HB.out)) hb); have n1_ := Aside0.mk (hbox); have n2_ := Aside0.mk ((by rw [hg]; exact (below_size (by repeat (first | (with_reducible first | exact HB.out | apply below_alloc | apply pw_below_drewN | apply below_drew1) | exact HB.out))) : w.heap.size ≤ gb300)); have n3_ := Aside0.mk ((by rw [hg]; exact (below_size (by repeat (first | (with_reducible first | exact HB.out | apply below_alloc | apply pw_below_drewN | apply below_drew1) | exact HB.out))) : w.heap.size ≤ gb300)); clear HB; have HB := n0_; have BK300 := n1_; have GW300 := n2_; have GE300 := n3_; clear n0_ n1_ n2_ n3_; clear hb hbox hg))
  (try simp only [Act.put, List.setIfInBounds_toArray, List.set_cons_zero, List.set_cons_succ])
  go_cut [13] (fun v13 wc => ∃ (kq : Nat) (x13_1 : Bool), v13 = .bool x13_1 ∧ Aside0 (turncockref15_CheckRule.j0 kq x13_1 a0_0 a0_1 a0_2 a0_3 a0_4 a0_5 = some r) ∧ Aside0 (kq ≤ k) ∧ Aside0 (wc.heap[gb300]? = some (.cells #[.string a0_0, .int .i64 a0_1, .int .i64 a0_2, .float .f64 a0_3, .bool a0_4, .bool a0_5] 44 (0, 0))) ∧ Aside0 (Below w.heap.size w wc))
  case first =>
    have H := HC2.out
    clear HC2
    by_cases c4 : a0_0.toList = ([] : List UInt8)
    · rw [if_pos c4] at H
      have c4b0 : (a0_0.toList == ([] : List UInt8)) = true := beq_iff_eq.mpr c4
      have c4b1 : (a0_0.toList != ([] : List UInt8)) = false := bne_eq_false_iff_eq.mpr c4
      clear c4
      (first | rw [c4b0] | (simp only [i64_w, i32_w]; rw [c4b0]) | skip)
      have H' := Aside0.mk H
      clear H
      have hcz5_0 : w3.cell? ⟨gb300, 0, none⟩ = some (.string a0_0) := (blk_cell BK300.out 0).trans rfl
      have hcz5_1 : w3.cell? ⟨gb300, 1, none⟩ = some (.int .i64 a0_1) := (blk_cell BK300.out 1).trans rfl
      have hcz5_2 : w3.cell? ⟨gb300, 2, none⟩ = some (.int .i64 a0_2) := (blk_cell BK300.out 2).trans rfl
      have hcz5_3 : w3.cell? ⟨gb300, 3, none⟩ = some (.float .f64 a0_3) := (blk_cell BK300.out 3).trans rfl
      have hcz5_4 : w3.cell? ⟨gb300, 4, none⟩ = some (.bool a0_4) := (blk_cell BK300.out 4).trans rfl
      have hcz5_5 : w3.cell? ⟨gb300, 5, none⟩ = some (.bool a0_5) := (blk_cell BK300.out 5).trans rfl
      have hfz5_0 := blk_frozen BK300.out 0
      have hfz5_1 := blk_frozen BK300.out 1
      have hfz5_2 := blk_frozen BK300.out 2
      have hfz5_3 := blk_frozen BK300.out 3
      have hfz5_4 := blk_frozen BK300.out 4
      have hfz5_5 := blk_frozen BK300.out 5
      go_wp2
      go_meet
      case rel => exact ⟨_, (false), (by first | rfl | (simp; done) | (simp [*]; done)), H', ⟨by first | omega | exact Nat.le_refl _⟩, ⟨by (with_reducible repeat (first | refine blk_drewN ?_ _ | refine blk_drew ?_ | refine blk_alloc ?_ _)); exact BK300.out⟩, ⟨by repeat (first | (with_reducible first | exact HB.out | apply below_alloc | apply pw_below_drewN | apply below_drew1 | refine below_set ?_ GE300.out) | exact HB.out)⟩⟩
    · rw [if_neg c4] at H
      have c4b0 : (a0_0.toList == ([] : List UInt8)) = false := beq_eq_false_iff_ne.mpr c4
      have c4b1 : (a0_0.toList != ([] : List UInt8)) = true := bne_iff_ne.mpr c4
      (first | rw [c4b0] | (simp only [i64_w, i32_w]; rw [c4b0]) | skip)
      replace H := Option.bind_eq_some_iff.mp H
      obtain ⟨t301, A60, H⟩ := H
      replace H : (turncockref15_CheckRule.j0 k (!t301) a0_0 a0_1 a0_2 a0_3 a0_4 a0_5) = some r := H
      have A6 := Aside0.mk A60
      clear A60
      have H' := Aside0.mk H
      clear H
      have hcz7_0 : w3.cell? ⟨gb300, 0, none⟩ = some (.string a0_0) := (blk_cell BK300.out 0).trans rfl
      have hcz7_1 : w3.cell? ⟨gb300, 1, none⟩ = some (.int .i64 a0_1) := (blk_cell BK300.out 1).trans rfl
      have hcz7_2 : w3.cell? ⟨gb300, 2, none⟩ = some (.int .i64 a0_2) := (blk_cell BK300.out 2).trans rfl
      have hcz7_3 : w3.cell? ⟨gb300, 3, none⟩ = some (.float .f64 a0_3) := (blk_cell BK300.out 3).trans rfl
      have hcz7_4 : w3.cell? ⟨gb300, 4, none⟩ = some (.bool a0_4) := (blk_cell BK300.out 4).trans rfl
      have hcz7_5 : w3.cell? ⟨gb300, 5, none⟩ = some (.bool a0_5) := (blk_cell BK300.out 5).trans rfl
      have hfz7_0 := blk_frozen BK300.out 0
      have hfz7_1 := blk_frozen BK300.out 1
      have hfz7_2 := blk_frozen BK300.out 2
      have hfz7_3 := blk_frozen BK300.out 3
      have hfz7_4 := blk_frozen BK300.out 4
      have hfz7_5 := blk_frozen BK300.out 5
      go_wp2_with (first | (go_at_call 30; (with_reducible refine (turncockref1_Name.calls k a0_0 t301 _ A6.out).mono ?_); rintro e w' ⟨rfl, ⟨nd, rfl⟩⟩))
      go_meet
      case rel => exact ⟨_, (!t301), (by first | rfl | (simp; done) | (simp [*]; done)), H', ⟨by first | omega | exact Nat.le_refl _⟩, ⟨by (with_reducible repeat (first | refine blk_drewN ?_ _ | refine blk_drew ?_ | refine blk_alloc ?_ _)); exact BK300.out⟩, ⟨by repeat (first | (with_reducible first | exact HB.out | apply below_alloc | apply pw_below_drewN | apply below_drew1 | refine below_set ?_ GE300.out) | exact HB.out)⟩⟩
  case rest =>
    clear HC2
    try clear p2
    try clear c4
    try clear c4b0
    try clear c4b1
    try clear hcz5_0
    try clear hcz5_1
    try clear hcz5_2
    try clear hcz5_3
    try clear hcz5_4
    try clear hcz5_5
    try clear hcz7_0
    try clear hcz7_1
    try clear hcz7_2
    try clear hcz7_3
    try clear hcz7_4
    try clear hcz7_5
    try clear hfz5_0
    try clear hfz5_1
    try clear hfz5_2
    try clear hfz5_3
    try clear hfz5_4
    try clear hfz5_5
    try clear hfz7_0
    try clear hfz7_1
    try clear hfz7_2
    try clear hfz7_3
    try clear hfz7_4
    try clear hfz7_5
    obtain ⟨kq, x13_1, rfl, HA, HJ1, BK300, HB⟩ := hcut
    cases kq with
    | zero => exact absurd HA.out (by simp [turncockref15_CheckRule.j0])
    | succ kj1 =>
      have H := HA.out
      clear HA
      simp only [turncockref15_CheckRule.j0] at H
      by_cases c8 : x13_1 = true
      · subst c8
        have H1 : (some false) = some r := by rw [if_pos rfl] at H; exact H
        clear H
        have H := H1
        clear H1
        obtain rfl := Option.some.inj H
        go_wp2
        go_ret
        exact ⟨by first | rfl | (simp [errW_none, errW_some] <;> rfl) | (simp [*, errW_none, errW_some] <;> rfl), by repeat (first | (with_reducible first | exact HB.out | apply below_alloc | apply pw_below_drewN | apply below_drew1 | refine below_set ?_ GE300.out) | exact HB.out)⟩
      · replace c8 := Bool.eq_false_iff.mpr c8
        subst c8
        have H1 : (if a0_5 = true then (if a0_1 = 0 then (if a0_2 = 0 then ((turncockref1_Alike.f kj1 a0_3 0).bind fun t302 => (some t302)) else (some false)) else (some false)) else ((turncockref15_Secs.f a0_1).bind fun t303 => (if t303 = 0 then (turncockref15_CheckRule.j1 kj1 true a0_0 a0_1 a0_2 a0_3 a0_4 a0_5) else (if a0_2 < 0 then (turncockref15_CheckRule.j1 kj1 true a0_0 a0_1 a0_2 a0_3 a0_4 a0_5) else (turncockref15_CheckRule.j1 kj1 (decide (a0_2 > 4294967295)) a0_0 a0_1 a0_2 a0_3 a0_4 a0_5))))) = some r := by rw [if_neg (show ¬ (false = true) by decide)] at H; exact H
        clear H
        have H := H1
        clear H1
        by_cases c9 : a0_5 = true
        · subst c9
          have H1 : (if a0_1 = 0 then (if a0_2 = 0 then ((turncockref1_Alike.f kj1 a0_3 0).bind fun t302 => (some t302)) else (some false)) else (some false)) = some r := by rw [if_pos rfl] at H; exact H
          clear H
          have H := H1
          clear H1
          by_cases c10 : a0_1 = 0
          · rw [if_pos c10] at H
            have c10b0 : (a0_1 == 0) = true := beq_iff_eq.mpr c10
            have c10b1 : (a0_1 != 0) = false := bne_eq_false_iff_eq.mpr c10
            clear c10
            by_cases c11 : a0_2 = 0
            · rw [if_pos c11] at H
              have c11b0 : (a0_2 == 0) = true := beq_iff_eq.mpr c11
              have c11b1 : (a0_2 != 0) = false := bne_eq_false_iff_eq.mpr c11
              clear c11
              replace H := Option.bind_eq_some_iff.mp H
              obtain ⟨t302, A120, H⟩ := H
              replace H : (some t302) = some r := H
              have A12 := Aside0.mk A120
              clear A120
              obtain rfl := Option.some.inj H
              have hcz13_0 : wc.cell? ⟨gb300, 0, none⟩ = some (.string a0_0) := (blk_cell BK300.out 0).trans rfl
              have hcz13_1 : wc.cell? ⟨gb300, 1, none⟩ = some (.int .i64 a0_1) := (blk_cell BK300.out 1).trans rfl
              have hcz13_2 : wc.cell? ⟨gb300, 2, none⟩ = some (.int .i64 a0_2) := (blk_cell BK300.out 2).trans rfl
              have hcz13_3 : wc.cell? ⟨gb300, 3, none⟩ = some (.float .f64 a0_3) := (blk_cell BK300.out 3).trans rfl
              have hcz13_4 : wc.cell? ⟨gb300, 4, none⟩ = some (.bool a0_4) := (blk_cell BK300.out 4).trans rfl
              have hcz13_5 : wc.cell? ⟨gb300, 5, none⟩ = some (.bool true) := (blk_cell BK300.out 5).trans rfl
              have hfz13_0 := blk_frozen BK300.out 0
              have hfz13_1 := blk_frozen BK300.out 1
              have hfz13_2 := blk_frozen BK300.out 2
              have hfz13_3 := blk_frozen BK300.out 3
              have hfz13_4 := blk_frozen BK300.out 4
              have hfz13_5 := blk_frozen BK300.out 5
              go_wp2_with (first | (go_at_call 59; (with_reducible refine (turncockref1_Alike.calls kj1 a0_3 0 t302 _ A12.out).mono ?_); rintro e w' ⟨rfl, ⟨nd, rfl⟩⟩))
              go_ret
              exact ⟨by first | rfl | (simp [errW_none, errW_some] <;> rfl) | (simp [*, errW_none, errW_some] <;> rfl), by repeat (first | (with_reducible first | exact HB.out | apply below_alloc | apply pw_below_drewN | apply below_drew1 | refine below_set ?_ GE300.out) | exact HB.out)⟩
            · rw [if_neg c11] at H
              have c11b0 : (a0_2 == 0) = false := beq_eq_false_iff_ne.mpr c11
              have c11b1 : (a0_2 != 0) = true := bne_iff_ne.mpr c11
              obtain rfl := Option.some.inj H
              have hcz14_0 : wc.cell? ⟨gb300, 0, none⟩ = some (.string a0_0) := (blk_cell BK300.out 0).trans rfl
              have hcz14_1 : wc.cell? ⟨gb300, 1, none⟩ = some (.int .i64 a0_1) := (blk_cell BK300.out 1).trans rfl
              have hcz14_2 : wc.cell? ⟨gb300, 2, none⟩ = some (.int .i64 a0_2) := (blk_cell BK300.out 2).trans rfl
              have hcz14_3 : wc.cell? ⟨gb300, 3, none⟩ = some (.float .f64 a0_3) := (blk_cell BK300.out 3).trans rfl
              have hcz14_4 : wc.cell? ⟨gb300, 4, none⟩ = some (.bool a0_4) := (blk_cell BK300.out 4).trans rfl
              have hcz14_5 : wc.cell? ⟨gb300, 5, none⟩ = some (.bool true) := (blk_cell BK300.out 5).trans rfl
              have hfz14_0 := blk_frozen BK300.out 0
              have hfz14_1 := blk_frozen BK300.out 1
              have hfz14_2 := blk_frozen BK300.out 2
              have hfz14_3 := blk_frozen BK300.out 3
              have hfz14_4 := blk_frozen BK300.out 4
              have hfz14_5 := blk_frozen BK300.out 5
              go_wp2
              go_ret
              exact ⟨by first | rfl | (simp [errW_none, errW_some] <;> rfl) | (simp [*, errW_none, errW_some] <;> rfl), by repeat (first | (with_reducible first | exact HB.out | apply below_alloc | apply pw_below_drewN | apply below_drew1 | refine below_set ?_ GE300.out) | exact HB.out)⟩
          · rw [if_neg c10] at H
            have c10b0 : (a0_1 == 0) = false := beq_eq_false_iff_ne.mpr c10
            have c10b1 : (a0_1 != 0) = true := bne_iff_ne.mpr c10
            obtain rfl := Option.some.inj H
            have hcz15_0 : wc.cell? ⟨gb300, 0, none⟩ = some (.string a0_0) := (blk_cell BK300.out 0).trans rfl
            have hcz15_1 : wc.cell? ⟨gb300, 1, none⟩ = some (.int .i64 a0_1) := (blk_cell BK300.out 1).trans rfl
            have hcz15_2 : wc.cell? ⟨gb300, 2, none⟩ = some (.int .i64 a0_2) := (blk_cell BK300.out 2).trans rfl
            have hcz15_3 : wc.cell? ⟨gb300, 3, none⟩ = some (.float .f64 a0_3) := (blk_cell BK300.out 3).trans rfl
            have hcz15_4 : wc.cell? ⟨gb300, 4, none⟩ = some (.bool a0_4) := (blk_cell BK300.out 4).trans rfl
            have hcz15_5 : wc.cell? ⟨gb300, 5, none⟩ = some (.bool true) := (blk_cell BK300.out 5).trans rfl
            have hfz15_0 := blk_frozen BK300.out 0
            have hfz15_1 := blk_frozen BK300.out 1
            have hfz15_2 := blk_frozen BK300.out 2
            have hfz15_3 := blk_frozen BK300.out 3
            have hfz15_4 := blk_frozen BK300.out 4
            have hfz15_5 := blk_frozen BK300.out 5
            go_wp2
            go_ret
            exact ⟨by first | rfl | (simp [errW_none, errW_some] <;> rfl) | (simp [*, errW_none, errW_some] <;> rfl), by repeat (first | (with_reducible first | exact HB.out | apply below_alloc | apply pw_below_drewN | apply below_drew1 | refine below_set ?_ GE300.out) | exact HB.out)⟩
        · replace c9 := Bool.eq_false_iff.mpr c9
          subst c9
          have H1 : ((turncockref15_Secs.f a0_1).bind fun t303 => (if t303 = 0 then (turncockref15_CheckRule.j1 kj1 true a0_0 a0_1 a0_2 a0_3 a0_4 false) else (if a0_2 < 0 then (turncockref15_CheckRule.j1 kj1 true a0_0 a0_1 a0_2 a0_3 a0_4 false) else (turncockref15_CheckRule.j1 kj1 (decide (a0_2 > 4294967295)) a0_0 a0_1 a0_2 a0_3 a0_4 false)))) = some r := by rw [if_neg (show ¬ (false = true) by decide)] at H; exact H
          clear H
          have H := H1
          clear H1
          have HC16 := Aside0.mk H
          clear H
          have hcz17_0 : wc.cell? ⟨gb300, 0, none⟩ = some (.string a0_0) := (blk_cell BK300.out 0).trans rfl
          have hcz17_1 : wc.cell? ⟨gb300, 1, none⟩ = some (.int .i64 a0_1) := (blk_cell BK300.out 1).trans rfl
          have hcz17_2 : wc.cell? ⟨gb300, 2, none⟩ = some (.int .i64 a0_2) := (blk_cell BK300.out 2).trans rfl
          have hcz17_3 : wc.cell? ⟨gb300, 3, none⟩ = some (.float .f64 a0_3) := (blk_cell BK300.out 3).trans rfl
          have hcz17_4 : wc.cell? ⟨gb300, 4, none⟩ = some (.bool a0_4) := (blk_cell BK300.out 4).trans rfl
          have hcz17_5 : wc.cell? ⟨gb300, 5, none⟩ = some (.bool false) := (blk_cell BK300.out 5).trans rfl
          have hfz17_0 := blk_frozen BK300.out 0
          have hfz17_1 := blk_frozen BK300.out 1
          have hfz17_2 := blk_frozen BK300.out 2
          have hfz17_3 := blk_frozen BK300.out 3
          have hfz17_4 := blk_frozen BK300.out 4
          have hfz17_5 := blk_frozen BK300.out 5
          go_upto_region 5 with (fail)
          go_cut [42] (fun v42 wc => ∃ (kq : Nat) (x42_15 : Bool), v42 = .bool x42_15 ∧ Aside0 (turncockref15_CheckRule.j1 kq x42_15 a0_0 a0_1 a0_2 a0_3 a0_4 false = some r) ∧ Aside0 (kq ≤ kj1) ∧ Aside0 (wc.heap[gb300]? = some (.cells #[.string a0_0, .int .i64 a0_1, .int .i64 a0_2, .float .f64 a0_3, .bool a0_4, .bool false] 44 (0, 0))) ∧ Aside0 (Below w.heap.size w wc))
          case first =>
            have H := HC16.out
            clear HC16
            replace H := Option.bind_eq_some_iff.mp H
            obtain ⟨t303, A180, H⟩ := H
            replace H : (if t303 = 0 then (turncockref15_CheckRule.j1 kj1 true a0_0 a0_1 a0_2 a0_3 a0_4 false) else (if a0_2 < 0 then (turncockref15_CheckRule.j1 kj1 true a0_0 a0_1 a0_2 a0_3 a0_4 false) else (turncockref15_CheckRule.j1 kj1 (decide (a0_2 > 4294967295)) a0_0 a0_1 a0_2 a0_3 a0_4 false))) = some r := H
            have A18 := Aside0.mk A180
            clear A180
            by_cases c19 : t303 = 0
            · rw [if_pos c19] at H
              have c19b0 : (t303 == 0) = true := beq_iff_eq.mpr c19
              have c19b1 : (t303 != 0) = false := bne_eq_false_iff_eq.mpr c19
              clear c19
              (first | rw [c19b0] | (simp only [i64_w, i32_w]; rw [c19b0]) | skip)
              have H' := Aside0.mk H
              clear H
              have hcz20_0 : wc.cell? ⟨gb300, 0, none⟩ = some (.string a0_0) := (blk_cell BK300.out 0).trans rfl
              have hcz20_1 : wc.cell? ⟨gb300, 1, none⟩ = some (.int .i64 a0_1) := (blk_cell BK300.out 1).trans rfl
              have hcz20_2 : wc.cell? ⟨gb300, 2, none⟩ = some (.int .i64 a0_2) := (blk_cell BK300.out 2).trans rfl
              have hcz20_3 : wc.cell? ⟨gb300, 3, none⟩ = some (.float .f64 a0_3) := (blk_cell BK300.out 3).trans rfl
              have hcz20_4 : wc.cell? ⟨gb300, 4, none⟩ = some (.bool a0_4) := (blk_cell BK300.out 4).trans rfl
              have hcz20_5 : wc.cell? ⟨gb300, 5, none⟩ = some (.bool false) := (blk_cell BK300.out 5).trans rfl
              have hfz20_0 := blk_frozen BK300.out 0
              have hfz20_1 := blk_frozen BK300.out 1
              have hfz20_2 := blk_frozen BK300.out 2
              have hfz20_3 := blk_frozen BK300.out 3
              have hfz20_4 := blk_frozen BK300.out 4
              have hfz20_5 := blk_frozen BK300.out 5
              go_wp2_with (first | ((with_reducible refine gate_callee (f := 60) rfl ?_); refine goesL_ (some 31) rfl rfl Try.func60 (by kernel_rfl) rfl #[.int .i64 a0_1] rfl (by (try simp only [List.map_toArray, List.map_cons, List.map_nil]); first | done | rfl | (simp only [List.length_drop, List.length_take]; rfl)) ?_; (with_reducible refine (turncockref15_Secs.calls a0_1 t303 _ A18.out).mono ?_); rintro e w' ⟨rfl, ⟨nd, rfl⟩⟩; refine ⟨_, rfl, ?_⟩))
              go_meet
              case rel => exact ⟨_, (true), (by first | rfl | (simp; done) | (simp [*]; done)), H', ⟨by have := HJ1.out; first | omega | exact Nat.le_refl _⟩, ⟨by (with_reducible repeat (first | refine blk_drewN ?_ _ | refine blk_drew ?_ | refine blk_alloc ?_ _)); exact BK300.out⟩, ⟨by repeat (first | (with_reducible first | exact HB.out | apply below_alloc | apply pw_below_drewN | apply below_drew1 | refine below_set ?_ GE300.out) | exact HB.out)⟩⟩
            · rw [if_neg c19] at H
              have c19b0 : (t303 == 0) = false := beq_eq_false_iff_ne.mpr c19
              have c19b1 : (t303 != 0) = true := bne_iff_ne.mpr c19
              (first | rw [c19b0] | (simp only [i64_w, i32_w]; rw [c19b0]) | skip)
              by_cases c21 : a0_2 < 0
              · rw [if_pos c21] at H
                have c21b0 : decide (a0_2 < 0) = true := decide_eq_true c21
                clear c21
                have H' := Aside0.mk H
                clear H
                have hcz22_0 : wc.cell? ⟨gb300, 0, none⟩ = some (.string a0_0) := (blk_cell BK300.out 0).trans rfl
                have hcz22_1 : wc.cell? ⟨gb300, 1, none⟩ = some (.int .i64 a0_1) := (blk_cell BK300.out 1).trans rfl
                have hcz22_2 : wc.cell? ⟨gb300, 2, none⟩ = some (.int .i64 a0_2) := (blk_cell BK300.out 2).trans rfl
                have hcz22_3 : wc.cell? ⟨gb300, 3, none⟩ = some (.float .f64 a0_3) := (blk_cell BK300.out 3).trans rfl
                have hcz22_4 : wc.cell? ⟨gb300, 4, none⟩ = some (.bool a0_4) := (blk_cell BK300.out 4).trans rfl
                have hcz22_5 : wc.cell? ⟨gb300, 5, none⟩ = some (.bool false) := (blk_cell BK300.out 5).trans rfl
                have hfz22_0 := blk_frozen BK300.out 0
                have hfz22_1 := blk_frozen BK300.out 1
                have hfz22_2 := blk_frozen BK300.out 2
                have hfz22_3 := blk_frozen BK300.out 3
                have hfz22_4 := blk_frozen BK300.out 4
                have hfz22_5 := blk_frozen BK300.out 5
                go_wp2_with (first | ((with_reducible refine gate_callee (f := 60) rfl ?_); refine goesL_ (some 31) rfl rfl Try.func60 (by kernel_rfl) rfl #[.int .i64 a0_1] rfl (by (try simp only [List.map_toArray, List.map_cons, List.map_nil]); first | done | rfl | (simp only [List.length_drop, List.length_take]; rfl)) ?_; (with_reducible refine (turncockref15_Secs.calls a0_1 t303 _ A18.out).mono ?_); rintro e w' ⟨rfl, ⟨nd, rfl⟩⟩; refine ⟨_, rfl, ?_⟩))
                go_meet
                case rel => exact ⟨_, (true), (by first | rfl | (simp; done) | (simp [*]; done)), H', ⟨by have := HJ1.out; first | omega | exact Nat.le_refl _⟩, ⟨by (with_reducible repeat (first | refine blk_drewN ?_ _ | refine blk_drew ?_ | refine blk_alloc ?_ _)); exact BK300.out⟩, ⟨by repeat (first | (with_reducible first | exact HB.out | apply below_alloc | apply pw_below_drewN | apply below_drew1 | refine below_set ?_ GE300.out) | exact HB.out)⟩⟩
              · rw [if_neg c21] at H
                have c21b0 : decide (a0_2 < 0) = false := decide_eq_false c21
                clear c21
                have H' := Aside0.mk H
                clear H
                have hcz23_0 : wc.cell? ⟨gb300, 0, none⟩ = some (.string a0_0) := (blk_cell BK300.out 0).trans rfl
                have hcz23_1 : wc.cell? ⟨gb300, 1, none⟩ = some (.int .i64 a0_1) := (blk_cell BK300.out 1).trans rfl
                have hcz23_2 : wc.cell? ⟨gb300, 2, none⟩ = some (.int .i64 a0_2) := (blk_cell BK300.out 2).trans rfl
                have hcz23_3 : wc.cell? ⟨gb300, 3, none⟩ = some (.float .f64 a0_3) := (blk_cell BK300.out 3).trans rfl
                have hcz23_4 : wc.cell? ⟨gb300, 4, none⟩ = some (.bool a0_4) := (blk_cell BK300.out 4).trans rfl
                have hcz23_5 : wc.cell? ⟨gb300, 5, none⟩ = some (.bool false) := (blk_cell BK300.out 5).trans rfl
                have hfz23_0 := blk_frozen BK300.out 0
                have hfz23_1 := blk_frozen BK300.out 1
                have hfz23_2 := blk_frozen BK300.out 2
                have hfz23_3 := blk_frozen BK300.out 3
                have hfz23_4 := blk_frozen BK300.out 4
                have hfz23_5 := blk_frozen BK300.out 5
                go_wp2_with (first | ((with_reducible refine gate_callee (f := 60) rfl ?_); refine goesL_ (some 31) rfl rfl Try.func60 (by kernel_rfl) rfl #[.int .i64 a0_1] rfl (by (try simp only [List.map_toArray, List.map_cons, List.map_nil]); first | done | rfl | (simp only [List.length_drop, List.length_take]; rfl)) ?_; (with_reducible refine (turncockref15_Secs.calls a0_1 t303 _ A18.out).mono ?_); rintro e w' ⟨rfl, ⟨nd, rfl⟩⟩; refine ⟨_, rfl, ?_⟩))
                go_meet
                case rel => exact ⟨_, (decide (a0_2 > 4294967295)), (by first | rfl | (simp; done) | (simp [*]; done)), H', ⟨by have := HJ1.out; first | omega | exact Nat.le_refl _⟩, ⟨by (with_reducible repeat (first | refine blk_drewN ?_ _ | refine blk_drew ?_ | refine blk_alloc ?_ _)); exact BK300.out⟩, ⟨by repeat (first | (with_reducible first | exact HB.out | apply below_alloc | apply pw_below_drewN | apply below_drew1 | refine below_set ?_ GE300.out) | exact HB.out)⟩⟩
          case rest =>
            clear HC16
            try clear c1
            try clear c2
            try clear p2
            try clear c4
            try clear c4b0
            try clear c4b1
            try clear c6
            try clear c8
            try clear c9
            try clear c10
            try clear c10b0
            try clear c10b1
            try clear c11
            try clear c11b0
            try clear c11b1
            try clear c19
            try clear c19b0
            try clear c19b1
            try clear c21
            try clear c21b0
            try clear hcz13_0
            try clear hcz13_1
            try clear hcz13_2
            try clear hcz13_3
            try clear hcz13_4
            try clear hcz13_5
            try clear hcz14_0
            try clear hcz14_1
            try clear hcz14_2
            try clear hcz14_3
            try clear hcz14_4
            try clear hcz14_5
            try clear hcz15_0
            try clear hcz15_1
            try clear hcz15_2
            try clear hcz15_3
            try clear hcz15_4
            try clear hcz15_5
            try clear hcz17_0
            try clear hcz17_1
            try clear hcz17_2
            try clear hcz17_3
            try clear hcz17_4
            try clear hcz17_5
            try clear hcz20_0
            try clear hcz20_1
            try clear hcz20_2
            try clear hcz20_3
            try clear hcz20_4
            try clear hcz20_5
            try clear hcz22_0
            try clear hcz22_1
            try clear hcz22_2
            try clear hcz22_3
            try clear hcz22_4
            try clear hcz22_5
            try clear hcz23_0
            try clear hcz23_1
            try clear hcz23_2
            try clear hcz23_3
            try clear hcz23_4
            try clear hcz23_5
            try clear hcz5_0
            try clear hcz5_1
            try clear hcz5_2
            try clear hcz5_3
            try clear hcz5_4
            try clear hcz5_5
            try clear hcz7_0
            try clear hcz7_1
            try clear hcz7_2
            try clear hcz7_3
            try clear hcz7_4
            try clear hcz7_5
            try clear hfz13_0
            try clear hfz13_1
            try clear hfz13_2
            try clear hfz13_3
            try clear hfz13_4
            try clear hfz13_5
            try clear hfz14_0
            try clear hfz14_1
            try clear hfz14_2
            try clear hfz14_3
            try clear hfz14_4
            try clear hfz14_5
            try clear hfz15_0
            try clear hfz15_1
            try clear hfz15_2
            try clear hfz15_3
            try clear hfz15_4
            try clear hfz15_5
            try clear hfz17_0
            try clear hfz17_1
            try clear hfz17_2
            try clear hfz17_3
            try clear hfz17_4
            try clear hfz17_5
            try clear hfz20_0
            try clear hfz20_1
            try clear hfz20_2
            try clear hfz20_3
            try clear hfz20_4
            try clear hfz20_5
            try clear hfz22_0
            try clear hfz22_1
            try clear hfz22_2
            try clear hfz22_3
            try clear hfz22_4
            try clear hfz22_5
            try clear hfz23_0
            try clear hfz23_1
            try clear hfz23_2
            try clear hfz23_3
            try clear hfz23_4
            try clear hfz23_5
            try clear hfz5_0
            try clear hfz5_1
            try clear hfz5_2
            try clear hfz5_3
            try clear hfz5_4
            try clear hfz5_5
            try clear hfz7_0
            try clear hfz7_1
            try clear hfz7_2
            try clear hfz7_3
            try clear hfz7_4
            try clear hfz7_5
            try clear p2
            obtain ⟨kq, x42_15, rfl, HA, HJ15, BK300, HB⟩ := hcut
            cases kq with
            | zero => exact absurd HA.out (by simp [turncockref15_CheckRule.j1])
            | succ kj15 =>
              have H := HA.out
              clear HA
              simp only [turncockref15_CheckRule.j1] at H
              by_cases c24 : x42_15 = true
              · subst c24
                have H1 : (some false) = some r := by rw [if_pos rfl] at H; exact H
                clear H
                have H := H1
                clear H1
                obtain rfl := Option.some.inj H
                go_wp2
                go_ret
                exact ⟨by first | rfl | (simp [errW_none, errW_some] <;> rfl) | (simp [*, errW_none, errW_some] <;> rfl), by repeat (first | (with_reducible first | exact HB.out | apply below_alloc | apply pw_below_drewN | apply below_drew1 | refine below_set ?_ GE300.out) | exact HB.out)⟩
              · replace c24 := Bool.eq_false_iff.mpr c24
                subst c24
                have H1 : ((turncockref1_Order.f kj15 a0_3 0).bind fun t304 => (if t304 < 0 then (some false) else ((turncockref1_Order.f kj15 a0_3 4607182418800017408).bind fun t305 => (if t305 > 0 then (some false) else ((turncockref1_Write.f kj15 a0_3).bind fun bt306 => (some bt306.2)))))) = some r := by rw [if_neg (show ¬ (false = true) by decide)] at H; exact H
                clear H
                have H := H1
                clear H1
                replace H := Option.bind_eq_some_iff.mp H
                obtain ⟨t304, A250, H⟩ := H
                replace H : (if t304 < 0 then (some false) else ((turncockref1_Order.f kj15 a0_3 4607182418800017408).bind fun t305 => (if t305 > 0 then (some false) else ((turncockref1_Write.f kj15 a0_3).bind fun bt306 => (some bt306.2))))) = some r := H
                have A25 := Aside0.mk A250
                clear A250
                by_cases c26 : t304 < 0
                · rw [if_pos c26] at H
                  have c26b0 : decide (t304 < 0) = true := decide_eq_true c26
                  clear c26
                  obtain rfl := Option.some.inj H
                  have hcz27_0 : wc.cell? ⟨gb300, 0, none⟩ = some (.string a0_0) := (blk_cell BK300.out 0).trans rfl
                  have hcz27_1 : wc.cell? ⟨gb300, 1, none⟩ = some (.int .i64 a0_1) := (blk_cell BK300.out 1).trans rfl
                  have hcz27_2 : wc.cell? ⟨gb300, 2, none⟩ = some (.int .i64 a0_2) := (blk_cell BK300.out 2).trans rfl
                  have hcz27_3 : wc.cell? ⟨gb300, 3, none⟩ = some (.float .f64 a0_3) := (blk_cell BK300.out 3).trans rfl
                  have hcz27_4 : wc.cell? ⟨gb300, 4, none⟩ = some (.bool a0_4) := (blk_cell BK300.out 4).trans rfl
                  have hcz27_5 : wc.cell? ⟨gb300, 5, none⟩ = some (.bool false) := (blk_cell BK300.out 5).trans rfl
                  have hfz27_0 := blk_frozen BK300.out 0
                  have hfz27_1 := blk_frozen BK300.out 1
                  have hfz27_2 := blk_frozen BK300.out 2
                  have hfz27_3 := blk_frozen BK300.out 3
                  have hfz27_4 := blk_frozen BK300.out 4
                  have hfz27_5 := blk_frozen BK300.out 5
                  go_wp2_with (first | ((with_reducible refine gate_callee (f := 61) rfl ?_); refine goesL_ (some 45) rfl rfl Try.func61 (by kernel_rfl) rfl #[.float .f64 a0_3, .float .f64 0] rfl (by (try simp only [List.map_toArray, List.map_cons, List.map_nil]); first | done | rfl | (simp only [List.length_drop, List.length_take]; rfl)) ?_; (with_reducible refine (turncockref1_Order.calls kj15 a0_3 0 t304 _ A25.out).mono ?_); rintro e w' ⟨rfl, ⟨nd, rfl⟩⟩; refine ⟨_, rfl, ?_⟩))
                  go_ret
                  exact ⟨by first | rfl | (simp [errW_none, errW_some] <;> rfl) | (simp [*, errW_none, errW_some] <;> rfl), by repeat (first | (with_reducible first | exact HB.out | apply below_alloc | apply pw_below_drewN | apply below_drew1 | refine below_set ?_ GE300.out) | exact HB.out)⟩
                · rw [if_neg c26] at H
                  have c26b0 : decide (t304 < 0) = false := decide_eq_false c26
                  clear c26
                  replace H := Option.bind_eq_some_iff.mp H
                  obtain ⟨t305, A280, H⟩ := H
                  replace H : (if t305 > 0 then (some false) else ((turncockref1_Write.f kj15 a0_3).bind fun bt306 => (some bt306.2))) = some r := H
                  have A28 := Aside0.mk A280
                  clear A280
                  by_cases c29 : t305 > 0
                  · rw [if_pos c29] at H
                    have c29b0 : decide (0 < t305) = true := decide_eq_true c29
                    clear c29
                    obtain rfl := Option.some.inj H
                    have hcz30_0 : wc.cell? ⟨gb300, 0, none⟩ = some (.string a0_0) := (blk_cell BK300.out 0).trans rfl
                    have hcz30_1 : wc.cell? ⟨gb300, 1, none⟩ = some (.int .i64 a0_1) := (blk_cell BK300.out 1).trans rfl
                    have hcz30_2 : wc.cell? ⟨gb300, 2, none⟩ = some (.int .i64 a0_2) := (blk_cell BK300.out 2).trans rfl
                    have hcz30_3 : wc.cell? ⟨gb300, 3, none⟩ = some (.float .f64 a0_3) := (blk_cell BK300.out 3).trans rfl
                    have hcz30_4 : wc.cell? ⟨gb300, 4, none⟩ = some (.bool a0_4) := (blk_cell BK300.out 4).trans rfl
                    have hcz30_5 : wc.cell? ⟨gb300, 5, none⟩ = some (.bool false) := (blk_cell BK300.out 5).trans rfl
                    have hfz30_0 := blk_frozen BK300.out 0
                    have hfz30_1 := blk_frozen BK300.out 1
                    have hfz30_2 := blk_frozen BK300.out 2
                    have hfz30_3 := blk_frozen BK300.out 3
                    have hfz30_4 := blk_frozen BK300.out 4
                    have hfz30_5 := blk_frozen BK300.out 5
                    go_wp2_with (first | ((with_reducible refine gate_callee (f := 61) rfl ?_); refine goesL_ (some 45) rfl rfl Try.func61 (by kernel_rfl) rfl #[.float .f64 a0_3, .float .f64 0] rfl (by (try simp only [List.map_toArray, List.map_cons, List.map_nil]); first | done | rfl | (simp only [List.length_drop, List.length_take]; rfl)) ?_; (with_reducible refine (turncockref1_Order.calls kj15 a0_3 0 t304 _ A25.out).mono ?_); rintro e w' ⟨rfl, ⟨nd, rfl⟩⟩; refine ⟨_, rfl, ?_⟩) | (go_at_call 61; (with_reducible refine (turncockref1_Order.calls kj15 a0_3 4607182418800017408 t305 _ A28.out).mono ?_); rintro e w' ⟨rfl, ⟨nd, rfl⟩⟩))
                    go_ret
                    exact ⟨by first | rfl | (simp [errW_none, errW_some] <;> rfl) | (simp [*, errW_none, errW_some] <;> rfl), by repeat (first | (with_reducible first | exact HB.out | apply below_alloc | apply pw_below_drewN | apply below_drew1 | refine below_set ?_ GE300.out) | exact HB.out)⟩
                  · rw [if_neg c29] at H
                    have c29b0 : decide (0 < t305) = false := decide_eq_false c29
                    clear c29
                    replace H := Option.bind_eq_some_iff.mp H
                    obtain ⟨⟨t306, t307⟩, A310, H⟩ := H
                    replace H : (some t307) = some r := H
                    have A31 := Aside0.mk A310
                    clear A310
                    obtain rfl := Option.some.inj H
                    have hcz32_0 : wc.cell? ⟨gb300, 0, none⟩ = some (.string a0_0) := (blk_cell BK300.out 0).trans rfl
                    have hcz32_1 : wc.cell? ⟨gb300, 1, none⟩ = some (.int .i64 a0_1) := (blk_cell BK300.out 1).trans rfl
                    have hcz32_2 : wc.cell? ⟨gb300, 2, none⟩ = some (.int .i64 a0_2) := (blk_cell BK300.out 2).trans rfl
                    have hcz32_3 : wc.cell? ⟨gb300, 3, none⟩ = some (.float .f64 a0_3) := (blk_cell BK300.out 3).trans rfl
                    have hcz32_4 : wc.cell? ⟨gb300, 4, none⟩ = some (.bool a0_4) := (blk_cell BK300.out 4).trans rfl
                    have hcz32_5 : wc.cell? ⟨gb300, 5, none⟩ = some (.bool false) := (blk_cell BK300.out 5).trans rfl
                    have hfz32_0 := blk_frozen BK300.out 0
                    have hfz32_1 := blk_frozen BK300.out 1
                    have hfz32_2 := blk_frozen BK300.out 2
                    have hfz32_3 := blk_frozen BK300.out 3
                    have hfz32_4 := blk_frozen BK300.out 4
                    have hfz32_5 := blk_frozen BK300.out 5
                    go_wp2_with (first | ((with_reducible refine gate_callee (f := 61) rfl ?_); refine goesL_ (some 45) rfl rfl Try.func61 (by kernel_rfl) rfl #[.float .f64 a0_3, .float .f64 0] rfl (by (try simp only [List.map_toArray, List.map_cons, List.map_nil]); first | done | rfl | (simp only [List.length_drop, List.length_take]; rfl)) ?_; (with_reducible refine (turncockref1_Order.calls kj15 a0_3 0 t304 _ A25.out).mono ?_); rintro e w' ⟨rfl, ⟨nd, rfl⟩⟩; refine ⟨_, rfl, ?_⟩) | (go_at_call 61; (with_reducible refine (turncockref1_Order.calls kj15 a0_3 4607182418800017408 t305 _ A28.out).mono ?_); rintro e w' ⟨rfl, ⟨nd, rfl⟩⟩) | ((with_reducible refine gate_callee (f := 62) rfl ?_); refine goesL_ (some 56) rfl rfl Try.func62 (by kernel_rfl) rfl #[.float .f64 a0_3] rfl (by (try simp only [List.map_toArray, List.map_cons, List.map_nil]); first | done | rfl | (simp only [List.length_drop, List.length_take]; rfl)) ?_; (with_reducible refine (turncockref1_Write.calls kj15 a0_3 t306 t307 _ A31.out).mono ?_); rintro e w33 ⟨rfl, hb⟩; refine ⟨_, rfl, ?_⟩; have n0_ := Aside0.mk (blk_below (g := gb300) (o := .cells #[.string a0_0, .int .i64 a0_1, .int .i64 a0_2, .float .f64 a0_3, .bool a0_4, .bool false] 44 (0, 0)) (by (with_reducible repeat (first | refine blk_drewN ?_ _ | refine blk_drew ?_ | refine blk_alloc ?_ _)); exact BK300.out) hb); have n1_ := Aside0.mk (below_step (by repeat (first | (with_reducible first | exact HB.out | apply below_alloc | apply pw_below_drewN | apply below_drew1 | refine below_set ?_ GE300.out) | exact HB.out)) hb); clear BK300; clear HB; have BK300 := n0_; have HB := n1_; clear n0_ n1_; (try clear hb); (try clear hb2); (try clear hk); (try clear hi)))
                    go_ret
                    exact ⟨by first | rfl | (simp [errW_none, errW_some] <;> rfl) | (simp [*, errW_none, errW_some] <;> rfl), by repeat (first | (with_reducible first | exact HB.out | apply below_alloc | apply pw_below_drewN | apply below_drew1 | refine below_set ?_ GE300.out) | exact HB.out)⟩
def turncockref15_SameRule.f (k : Nat) (a0_0 : ByteArray) (a0_1 : Int) (a0_2 : Int) (a0_3 : Nat) (a0_4 : Bool) (a0_5 : Bool) (a1_0 : ByteArray) (a1_1 : Int) (a1_2 : Int) (a1_3 : Nat) (a1_4 : Bool) (a1_5 : Bool) : Option (Bool) := if a0_0.toList = a1_0.toList then (if a0_1 = a1_1 then (if a0_2 = a1_2 then (if (a0_4 == a1_4) = true then (if (a0_5 == a1_5) = true then ((turncockref1_Alike.f k a0_3 a1_3).bind fun t310 => (some t310)) else (some false)) else (some false)) else (some false)) else (some false)) else (some false)
set_option maxHeartbeats 8000000 in
set_option maxRecDepth 100000 in
theorem turncockref15_SameRule.calls (k : Nat) (a0_0 : ByteArray) (a0_1 : Int) (a0_2 : Int) (a0_3 : Nat) (a0_4 : Bool) (a0_5 : Bool) (a1_0 : ByteArray) (a1_1 : Int) (a1_2 : Int) (a1_3 : Nat) (a1_4 : Bool) (a1_5 : Bool) (r : Bool) (w : World) (h : turncockref15_SameRule.f k a0_0 a0_1 a0_2 a0_3 a0_4 a0_5 a1_0 a1_1 a1_2 a1_3 a1_4 a1_5 = some r) :
    Calls Try.prog 50 #[.agg #[.string a0_0, .int .i64 a0_1, .int .i64 a0_2, .float .f64 a0_3, .bool a0_4, .bool a0_5], .agg #[.string a1_0, .int .i64 a1_1, .int .i64 a1_2, .float .f64 a1_3, .bool a1_4, .bool a1_5]] w fun e w' => e = .returned (.bool r) ∧ Below w.heap.size w w' := by
  have hu44 := Try.underlying44
  have HB := Aside0.mk (Below.refl w.heap.size w)
  have H : (if a0_0.toList = a1_0.toList then (if a0_1 = a1_1 then (if a0_2 = a1_2 then (if (a0_4 == a1_4) = true then (if (a0_5 == a1_5) = true then ((turncockref1_Alike.f k a0_3 a1_3).bind fun t310 => (some t310)) else (some false)) else (some false)) else (some false)) else (some false)) else (some false)) = some r := h
  clear h
  by_cases c3 : a0_0.toList = a1_0.toList
  · rw [if_pos c3] at H
    have c3b0 : (a0_0.toList == a1_0.toList) = true := beq_iff_eq.mpr c3
    have c3b1 : (a0_0.toList != a1_0.toList) = false := bne_eq_false_iff_eq.mpr c3
    clear c3
    by_cases c4 : a0_1 = a1_1
    · rw [if_pos c4] at H
      have c4b0 : (a0_1 == a1_1) = true := beq_iff_eq.mpr c4
      have c4b1 : (a0_1 != a1_1) = false := bne_eq_false_iff_eq.mpr c4
      clear c4
      by_cases c5 : a0_2 = a1_2
      · rw [if_pos c5] at H
        have c5b0 : (a0_2 == a1_2) = true := beq_iff_eq.mpr c5
        have c5b1 : (a0_2 != a1_2) = false := bne_eq_false_iff_eq.mpr c5
        clear c5
        by_cases c6 : (a0_4 == a1_4) = true
        · rw [if_pos c6] at H
          have c6b0 : (a0_4 == a1_4) = true := c6
          (try (have c6b1 : decide (a0_4 = a1_4) = true := by simpa using c6))
          (try (have c6b2 : (a0_4 == a1_4) = true := by simpa using c6))
          clear c6
          by_cases c7 : (a0_5 == a1_5) = true
          · rw [if_pos c7] at H
            have c7b0 : (a0_5 == a1_5) = true := c7
            (try (have c7b1 : decide (a0_5 = a1_5) = true := by simpa using c7))
            (try (have c7b2 : (a0_5 == a1_5) = true := by simpa using c7))
            clear c7
            replace H := Option.bind_eq_some_iff.mp H
            obtain ⟨t310, A80, H⟩ := H
            replace H : (some t310) = some r := H
            have A8 := Aside0.mk A80
            clear A80
            obtain rfl := Option.some.inj H
            go_enter Try.func50, Try.ntmps50
            go_wp2_with (first | ((with_reducible refine gate_dst (N := 2) rfl ?_); refine box_event ?hg (N := 2) ?hd (cs := #[.string a0_0, .int .i64 a0_1, .int .i64 a0_2, .float .f64 a0_3, .bool a0_4, .bool a0_5]) (t := 44) ?hr ?_; (case hd => rfl); (case hg => rfl); (case hr => first | (go_simp; done) | (go_simp; rfl)); intro gb308 hg w9 hbox hb; have n0_ := Aside0.mk (below_step (by repeat (first | (with_reducible first | exact HB.out | apply below_alloc | apply pw_below_drewN | apply below_drew1) | exact HB.out)) hb); have n1_ := Aside0.mk (hbox); have n2_ := Aside0.mk ((by rw [hg]; exact (below_size (by repeat (first | (with_reducible first | exact HB.out | apply below_alloc | apply pw_below_drewN | apply below_drew1) | exact HB.out))) : w.heap.size ≤ gb308)); have n3_ := Aside0.mk ((by rw [hg]; exact (below_size (by repeat (first | (with_reducible first | exact HB.out | apply below_alloc | apply pw_below_drewN | apply below_drew1) | exact HB.out))) : w.heap.size ≤ gb308)); clear HB; have HB := n0_; have BK308 := n1_; have GW308 := n2_; have GE308 := n3_; clear n0_ n1_ n2_ n3_; clear hb hbox hg) | ((with_reducible refine gate_dst (N := 3) rfl ?_); refine box_event ?hg (N := 3) ?hd (cs := #[.string a1_0, .int .i64 a1_1, .int .i64 a1_2, .float .f64 a1_3, .bool a1_4, .bool a1_5]) (t := 44) ?hr ?_; (case hd => rfl); (case hg => rfl); (case hr => first | (go_simp; done) | (go_simp; rfl)); intro gb309 hg w10 hbox hb; have n0_ := Aside0.mk (blk_below (g := gb308) (o := .cells #[.string a0_0, .int .i64 a0_1, .int .i64 a0_2, .float .f64 a0_3, .bool a0_4, .bool a0_5] 44 (0, 0)) (by (with_reducible repeat (first | refine blk_drewN ?_ _ | refine blk_drew ?_ | refine blk_alloc ?_ _)); exact BK308.out) hb); have n1_ := Aside0.mk (below_step (by repeat (first | (with_reducible first | exact HB.out | apply below_alloc | apply pw_below_drewN | apply below_drew1 | refine below_set ?_ GE308.out) | exact HB.out)) hb); have n2_ := Aside0.mk (hbox); have n3_ := Aside0.mk ((by rw [hg]; exact (below_size (by repeat (first | (with_reducible first | exact HB.out | apply below_alloc | apply pw_below_drewN | apply below_drew1 | refine below_set ?_ GE308.out) | exact HB.out))) : w.heap.size ≤ gb309)); have n4_ := Aside0.mk ((by rw [hg]; exact (below_size (by repeat (first | (with_reducible first | exact HB.out | apply below_alloc | apply pw_below_drewN | apply below_drew1 | refine below_set ?_ GE308.out) | exact HB.out))) : w.heap.size ≤ gb309)); have n5_ := Aside0.mk ((by rw [hg]; exact Nat.ne_of_lt (blk_lt (g := gb308) (o := .cells #[.string a0_0, .int .i64 a0_1, .int .i64 a0_2, .float .f64 a0_3, .bool a0_4, .bool a0_5] 44 (0, 0)) (by (with_reducible repeat (first | refine blk_drewN ?_ _ | refine blk_drew ?_ | refine blk_alloc ?_ _)); exact BK308.out)) : gb308 ≠ gb309)); have n6_ := Aside0.mk ((by rw [hg]; exact Nat.ne_of_gt (blk_lt (g := gb308) (o := .cells #[.string a0_0, .int .i64 a0_1, .int .i64 a0_2, .float .f64 a0_3, .bool a0_4, .bool a0_5] 44 (0, 0)) (by (with_reducible repeat (first | refine blk_drewN ?_ _ | refine blk_drew ?_ | refine blk_alloc ?_ _)); exact BK308.out)) : gb309 ≠ gb308)); clear BK308; clear HB; have BK308 := n0_; have HB := n1_; have BK309 := n2_; have GW309 := n3_; have GE309 := n4_; have NB308_309 := n5_; have NB309_308 := n6_; clear n0_ n1_ n2_ n3_ n4_ n5_ n6_; clear hb hbox hg; have hnb11 := NB308_309.out; have hnc11 := NB309_308.out; have hcz12_0 : w10.cell? ⟨gb308, 0, none⟩ = some (.string a0_0) := (blk_cell BK308.out 0).trans rfl; have hcz12_1 : w10.cell? ⟨gb308, 1, none⟩ = some (.int .i64 a0_1) := (blk_cell BK308.out 1).trans rfl; have hcz12_2 : w10.cell? ⟨gb308, 2, none⟩ = some (.int .i64 a0_2) := (blk_cell BK308.out 2).trans rfl; have hcz12_3 : w10.cell? ⟨gb308, 3, none⟩ = some (.float .f64 a0_3) := (blk_cell BK308.out 3).trans rfl; have hcz12_4 : w10.cell? ⟨gb308, 4, none⟩ = some (.bool a0_4) := (blk_cell BK308.out 4).trans rfl; have hcz12_5 : w10.cell? ⟨gb308, 5, none⟩ = some (.bool a0_5) := (blk_cell BK308.out 5).trans rfl; have hfz12_0 := blk_frozen BK308.out 0; have hfz12_1 := blk_frozen BK308.out 1; have hfz12_2 := blk_frozen BK308.out 2; have hfz12_3 := blk_frozen BK308.out 3; have hfz12_4 := blk_frozen BK308.out 4; have hfz12_5 := blk_frozen BK308.out 5; have hcz13_0 : w10.cell? ⟨gb309, 0, none⟩ = some (.string a1_0) := (blk_cell BK309.out 0).trans rfl; have hcz13_1 : w10.cell? ⟨gb309, 1, none⟩ = some (.int .i64 a1_1) := (blk_cell BK309.out 1).trans rfl; have hcz13_2 : w10.cell? ⟨gb309, 2, none⟩ = some (.int .i64 a1_2) := (blk_cell BK309.out 2).trans rfl; have hcz13_3 : w10.cell? ⟨gb309, 3, none⟩ = some (.float .f64 a1_3) := (blk_cell BK309.out 3).trans rfl; have hcz13_4 : w10.cell? ⟨gb309, 4, none⟩ = some (.bool a1_4) := (blk_cell BK309.out 4).trans rfl; have hcz13_5 : w10.cell? ⟨gb309, 5, none⟩ = some (.bool a1_5) := (blk_cell BK309.out 5).trans rfl; have hfz13_0 := blk_frozen BK309.out 0; have hfz13_1 := blk_frozen BK309.out 1; have hfz13_2 := blk_frozen BK309.out 2; have hfz13_3 := blk_frozen BK309.out 3; have hfz13_4 := blk_frozen BK309.out 4; have hfz13_5 := blk_frozen BK309.out 5) | (go_at_call 59; (with_reducible refine (turncockref1_Alike.calls k a0_3 a1_3 t310 _ A8.out).mono ?_); rintro e w' ⟨rfl, ⟨nd, rfl⟩⟩))
            go_ret
            exact ⟨by first | rfl | (simp [errW_none, errW_some] <;> rfl) | (simp [*, errW_none, errW_some] <;> rfl), by repeat (first | (with_reducible first | exact HB.out | apply below_alloc | apply pw_below_drewN | apply below_drew1 | refine below_set ?_ GE308.out | refine below_set ?_ GE309.out) | exact HB.out)⟩
          · rw [if_neg c7] at H
            have c7b0 : (a0_5 == a1_5) = false := by simpa using c7
            (try (have c7b1 : decide (a0_5 = a1_5) = false := by simpa using c7))
            (try (have c7b2 : (a0_5 == a1_5) = false := by simpa using c7))
            (try (have c7b3 : ¬ (a0_5 = a1_5) := by simpa using c7))
            clear c7
            obtain rfl := Option.some.inj H
            go_enter Try.func50, Try.ntmps50
            go_wp2_with (first | ((with_reducible refine gate_dst (N := 2) rfl ?_); refine box_event ?hg (N := 2) ?hd (cs := #[.string a0_0, .int .i64 a0_1, .int .i64 a0_2, .float .f64 a0_3, .bool a0_4, .bool a0_5]) (t := 44) ?hr ?_; (case hd => rfl); (case hg => rfl); (case hr => first | (go_simp; done) | (go_simp; rfl)); intro gb308 hg w14 hbox hb; have n0_ := Aside0.mk (below_step (by repeat (first | (with_reducible first | exact HB.out | apply below_alloc | apply pw_below_drewN | apply below_drew1) | exact HB.out)) hb); have n1_ := Aside0.mk (hbox); have n2_ := Aside0.mk ((by rw [hg]; exact (below_size (by repeat (first | (with_reducible first | exact HB.out | apply below_alloc | apply pw_below_drewN | apply below_drew1) | exact HB.out))) : w.heap.size ≤ gb308)); have n3_ := Aside0.mk ((by rw [hg]; exact (below_size (by repeat (first | (with_reducible first | exact HB.out | apply below_alloc | apply pw_below_drewN | apply below_drew1) | exact HB.out))) : w.heap.size ≤ gb308)); clear HB; have HB := n0_; have BK308 := n1_; have GW308 := n2_; have GE308 := n3_; clear n0_ n1_ n2_ n3_; clear hb hbox hg) | ((with_reducible refine gate_dst (N := 3) rfl ?_); refine box_event ?hg (N := 3) ?hd (cs := #[.string a1_0, .int .i64 a1_1, .int .i64 a1_2, .float .f64 a1_3, .bool a1_4, .bool a1_5]) (t := 44) ?hr ?_; (case hd => rfl); (case hg => rfl); (case hr => first | (go_simp; done) | (go_simp; rfl)); intro gb309 hg w15 hbox hb; have n0_ := Aside0.mk (blk_below (g := gb308) (o := .cells #[.string a0_0, .int .i64 a0_1, .int .i64 a0_2, .float .f64 a0_3, .bool a0_4, .bool a0_5] 44 (0, 0)) (by (with_reducible repeat (first | refine blk_drewN ?_ _ | refine blk_drew ?_ | refine blk_alloc ?_ _)); exact BK308.out) hb); have n1_ := Aside0.mk (below_step (by repeat (first | (with_reducible first | exact HB.out | apply below_alloc | apply pw_below_drewN | apply below_drew1 | refine below_set ?_ GE308.out) | exact HB.out)) hb); have n2_ := Aside0.mk (hbox); have n3_ := Aside0.mk ((by rw [hg]; exact (below_size (by repeat (first | (with_reducible first | exact HB.out | apply below_alloc | apply pw_below_drewN | apply below_drew1 | refine below_set ?_ GE308.out) | exact HB.out))) : w.heap.size ≤ gb309)); have n4_ := Aside0.mk ((by rw [hg]; exact (below_size (by repeat (first | (with_reducible first | exact HB.out | apply below_alloc | apply pw_below_drewN | apply below_drew1 | refine below_set ?_ GE308.out) | exact HB.out))) : w.heap.size ≤ gb309)); have n5_ := Aside0.mk ((by rw [hg]; exact Nat.ne_of_lt (blk_lt (g := gb308) (o := .cells #[.string a0_0, .int .i64 a0_1, .int .i64 a0_2, .float .f64 a0_3, .bool a0_4, .bool a0_5] 44 (0, 0)) (by (with_reducible repeat (first | refine blk_drewN ?_ _ | refine blk_drew ?_ | refine blk_alloc ?_ _)); exact BK308.out)) : gb308 ≠ gb309)); have n6_ := Aside0.mk ((by rw [hg]; exact Nat.ne_of_gt (blk_lt (g := gb308) (o := .cells #[.string a0_0, .int .i64 a0_1, .int .i64 a0_2, .float .f64 a0_3, .bool a0_4, .bool a0_5] 44 (0, 0)) (by (with_reducible repeat (first | refine blk_drewN ?_ _ | refine blk_drew ?_ | refine blk_alloc ?_ _)); exact BK308.out)) : gb309 ≠ gb308)); clear BK308; clear HB; have BK308 := n0_; have HB := n1_; have BK309 := n2_; have GW309 := n3_; have GE309 := n4_; have NB308_309 := n5_; have NB309_308 := n6_; clear n0_ n1_ n2_ n3_ n4_ n5_ n6_; clear hb hbox hg; have hnb16 := NB308_309.out; have hnc16 := NB309_308.out; have hcz17_0 : w15.cell? ⟨gb308, 0, none⟩ = some (.string a0_0) := (blk_cell BK308.out 0).trans rfl; have hcz17_1 : w15.cell? ⟨gb308, 1, none⟩ = some (.int .i64 a0_1) := (blk_cell BK308.out 1).trans rfl; have hcz17_2 : w15.cell? ⟨gb308, 2, none⟩ = some (.int .i64 a0_2) := (blk_cell BK308.out 2).trans rfl; have hcz17_3 : w15.cell? ⟨gb308, 3, none⟩ = some (.float .f64 a0_3) := (blk_cell BK308.out 3).trans rfl; have hcz17_4 : w15.cell? ⟨gb308, 4, none⟩ = some (.bool a0_4) := (blk_cell BK308.out 4).trans rfl; have hcz17_5 : w15.cell? ⟨gb308, 5, none⟩ = some (.bool a0_5) := (blk_cell BK308.out 5).trans rfl; have hfz17_0 := blk_frozen BK308.out 0; have hfz17_1 := blk_frozen BK308.out 1; have hfz17_2 := blk_frozen BK308.out 2; have hfz17_3 := blk_frozen BK308.out 3; have hfz17_4 := blk_frozen BK308.out 4; have hfz17_5 := blk_frozen BK308.out 5; have hcz18_0 : w15.cell? ⟨gb309, 0, none⟩ = some (.string a1_0) := (blk_cell BK309.out 0).trans rfl; have hcz18_1 : w15.cell? ⟨gb309, 1, none⟩ = some (.int .i64 a1_1) := (blk_cell BK309.out 1).trans rfl; have hcz18_2 : w15.cell? ⟨gb309, 2, none⟩ = some (.int .i64 a1_2) := (blk_cell BK309.out 2).trans rfl; have hcz18_3 : w15.cell? ⟨gb309, 3, none⟩ = some (.float .f64 a1_3) := (blk_cell BK309.out 3).trans rfl; have hcz18_4 : w15.cell? ⟨gb309, 4, none⟩ = some (.bool a1_4) := (blk_cell BK309.out 4).trans rfl; have hcz18_5 : w15.cell? ⟨gb309, 5, none⟩ = some (.bool a1_5) := (blk_cell BK309.out 5).trans rfl; have hfz18_0 := blk_frozen BK309.out 0; have hfz18_1 := blk_frozen BK309.out 1; have hfz18_2 := blk_frozen BK309.out 2; have hfz18_3 := blk_frozen BK309.out 3; have hfz18_4 := blk_frozen BK309.out 4; have hfz18_5 := blk_frozen BK309.out 5))
            go_ret
            exact ⟨by first | rfl | (simp [errW_none, errW_some] <;> rfl) | (simp [*, errW_none, errW_some] <;> rfl), by repeat (first | (with_reducible first | exact HB.out | apply below_alloc | apply pw_below_drewN | apply below_drew1 | refine below_set ?_ GE308.out | refine below_set ?_ GE309.out) | exact HB.out)⟩
        · rw [if_neg c6] at H
          have c6b0 : (a0_4 == a1_4) = false := by simpa using c6
          (try (have c6b1 : decide (a0_4 = a1_4) = false := by simpa using c6))
          (try (have c6b2 : (a0_4 == a1_4) = false := by simpa using c6))
          (try (have c6b3 : ¬ (a0_4 = a1_4) := by simpa using c6))
          clear c6
          obtain rfl := Option.some.inj H
          go_enter Try.func50, Try.ntmps50
          go_wp2_with (first | ((with_reducible refine gate_dst (N := 2) rfl ?_); refine box_event ?hg (N := 2) ?hd (cs := #[.string a0_0, .int .i64 a0_1, .int .i64 a0_2, .float .f64 a0_3, .bool a0_4, .bool a0_5]) (t := 44) ?hr ?_; (case hd => rfl); (case hg => rfl); (case hr => first | (go_simp; done) | (go_simp; rfl)); intro gb308 hg w19 hbox hb; have n0_ := Aside0.mk (below_step (by repeat (first | (with_reducible first | exact HB.out | apply below_alloc | apply pw_below_drewN | apply below_drew1) | exact HB.out)) hb); have n1_ := Aside0.mk (hbox); have n2_ := Aside0.mk ((by rw [hg]; exact (below_size (by repeat (first | (with_reducible first | exact HB.out | apply below_alloc | apply pw_below_drewN | apply below_drew1) | exact HB.out))) : w.heap.size ≤ gb308)); have n3_ := Aside0.mk ((by rw [hg]; exact (below_size (by repeat (first | (with_reducible first | exact HB.out | apply below_alloc | apply pw_below_drewN | apply below_drew1) | exact HB.out))) : w.heap.size ≤ gb308)); clear HB; have HB := n0_; have BK308 := n1_; have GW308 := n2_; have GE308 := n3_; clear n0_ n1_ n2_ n3_; clear hb hbox hg) | ((with_reducible refine gate_dst (N := 3) rfl ?_); refine box_event ?hg (N := 3) ?hd (cs := #[.string a1_0, .int .i64 a1_1, .int .i64 a1_2, .float .f64 a1_3, .bool a1_4, .bool a1_5]) (t := 44) ?hr ?_; (case hd => rfl); (case hg => rfl); (case hr => first | (go_simp; done) | (go_simp; rfl)); intro gb309 hg w20 hbox hb; have n0_ := Aside0.mk (blk_below (g := gb308) (o := .cells #[.string a0_0, .int .i64 a0_1, .int .i64 a0_2, .float .f64 a0_3, .bool a0_4, .bool a0_5] 44 (0, 0)) (by (with_reducible repeat (first | refine blk_drewN ?_ _ | refine blk_drew ?_ | refine blk_alloc ?_ _)); exact BK308.out) hb); have n1_ := Aside0.mk (below_step (by repeat (first | (with_reducible first | exact HB.out | apply below_alloc | apply pw_below_drewN | apply below_drew1 | refine below_set ?_ GE308.out) | exact HB.out)) hb); have n2_ := Aside0.mk (hbox); have n3_ := Aside0.mk ((by rw [hg]; exact (below_size (by repeat (first | (with_reducible first | exact HB.out | apply below_alloc | apply pw_below_drewN | apply below_drew1 | refine below_set ?_ GE308.out) | exact HB.out))) : w.heap.size ≤ gb309)); have n4_ := Aside0.mk ((by rw [hg]; exact (below_size (by repeat (first | (with_reducible first | exact HB.out | apply below_alloc | apply pw_below_drewN | apply below_drew1 | refine below_set ?_ GE308.out) | exact HB.out))) : w.heap.size ≤ gb309)); have n5_ := Aside0.mk ((by rw [hg]; exact Nat.ne_of_lt (blk_lt (g := gb308) (o := .cells #[.string a0_0, .int .i64 a0_1, .int .i64 a0_2, .float .f64 a0_3, .bool a0_4, .bool a0_5] 44 (0, 0)) (by (with_reducible repeat (first | refine blk_drewN ?_ _ | refine blk_drew ?_ | refine blk_alloc ?_ _)); exact BK308.out)) : gb308 ≠ gb309)); have n6_ := Aside0.mk ((by rw [hg]; exact Nat.ne_of_gt (blk_lt (g := gb308) (o := .cells #[.string a0_0, .int .i64 a0_1, .int .i64 a0_2, .float .f64 a0_3, .bool a0_4, .bool a0_5] 44 (0, 0)) (by (with_reducible repeat (first | refine blk_drewN ?_ _ | refine blk_drew ?_ | refine blk_alloc ?_ _)); exact BK308.out)) : gb309 ≠ gb308)); clear BK308; clear HB; have BK308 := n0_; have HB := n1_; have BK309 := n2_; have GW309 := n3_; have GE309 := n4_; have NB308_309 := n5_; have NB309_308 := n6_; clear n0_ n1_ n2_ n3_ n4_ n5_ n6_; clear hb hbox hg; have hnb21 := NB308_309.out; have hnc21 := NB309_308.out; have hcz22_0 : w20.cell? ⟨gb308, 0, none⟩ = some (.string a0_0) := (blk_cell BK308.out 0).trans rfl; have hcz22_1 : w20.cell? ⟨gb308, 1, none⟩ = some (.int .i64 a0_1) := (blk_cell BK308.out 1).trans rfl; have hcz22_2 : w20.cell? ⟨gb308, 2, none⟩ = some (.int .i64 a0_2) := (blk_cell BK308.out 2).trans rfl; have hcz22_3 : w20.cell? ⟨gb308, 3, none⟩ = some (.float .f64 a0_3) := (blk_cell BK308.out 3).trans rfl; have hcz22_4 : w20.cell? ⟨gb308, 4, none⟩ = some (.bool a0_4) := (blk_cell BK308.out 4).trans rfl; have hcz22_5 : w20.cell? ⟨gb308, 5, none⟩ = some (.bool a0_5) := (blk_cell BK308.out 5).trans rfl; have hfz22_0 := blk_frozen BK308.out 0; have hfz22_1 := blk_frozen BK308.out 1; have hfz22_2 := blk_frozen BK308.out 2; have hfz22_3 := blk_frozen BK308.out 3; have hfz22_4 := blk_frozen BK308.out 4; have hfz22_5 := blk_frozen BK308.out 5; have hcz23_0 : w20.cell? ⟨gb309, 0, none⟩ = some (.string a1_0) := (blk_cell BK309.out 0).trans rfl; have hcz23_1 : w20.cell? ⟨gb309, 1, none⟩ = some (.int .i64 a1_1) := (blk_cell BK309.out 1).trans rfl; have hcz23_2 : w20.cell? ⟨gb309, 2, none⟩ = some (.int .i64 a1_2) := (blk_cell BK309.out 2).trans rfl; have hcz23_3 : w20.cell? ⟨gb309, 3, none⟩ = some (.float .f64 a1_3) := (blk_cell BK309.out 3).trans rfl; have hcz23_4 : w20.cell? ⟨gb309, 4, none⟩ = some (.bool a1_4) := (blk_cell BK309.out 4).trans rfl; have hcz23_5 : w20.cell? ⟨gb309, 5, none⟩ = some (.bool a1_5) := (blk_cell BK309.out 5).trans rfl; have hfz23_0 := blk_frozen BK309.out 0; have hfz23_1 := blk_frozen BK309.out 1; have hfz23_2 := blk_frozen BK309.out 2; have hfz23_3 := blk_frozen BK309.out 3; have hfz23_4 := blk_frozen BK309.out 4; have hfz23_5 := blk_frozen BK309.out 5))
          go_ret
          exact ⟨by first | rfl | (simp [errW_none, errW_some] <;> rfl) | (simp [*, errW_none, errW_some] <;> rfl), by repeat (first | (with_reducible first | exact HB.out | apply below_alloc | apply pw_below_drewN | apply below_drew1 | refine below_set ?_ GE308.out | refine below_set ?_ GE309.out) | exact HB.out)⟩
      · rw [if_neg c5] at H
        have c5b0 : (a0_2 == a1_2) = false := beq_eq_false_iff_ne.mpr c5
        have c5b1 : (a0_2 != a1_2) = true := bne_iff_ne.mpr c5
        obtain rfl := Option.some.inj H
        go_enter Try.func50, Try.ntmps50
        go_wp2_with (first | ((with_reducible refine gate_dst (N := 2) rfl ?_); refine box_event ?hg (N := 2) ?hd (cs := #[.string a0_0, .int .i64 a0_1, .int .i64 a0_2, .float .f64 a0_3, .bool a0_4, .bool a0_5]) (t := 44) ?hr ?_; (case hd => rfl); (case hg => rfl); (case hr => first | (go_simp; done) | (go_simp; rfl)); intro gb308 hg w24 hbox hb; have n0_ := Aside0.mk (below_step (by repeat (first | (with_reducible first | exact HB.out | apply below_alloc | apply pw_below_drewN | apply below_drew1) | exact HB.out)) hb); have n1_ := Aside0.mk (hbox); have n2_ := Aside0.mk ((by rw [hg]; exact (below_size (by repeat (first | (with_reducible first | exact HB.out | apply below_alloc | apply pw_below_drewN | apply below_drew1) | exact HB.out))) : w.heap.size ≤ gb308)); have n3_ := Aside0.mk ((by rw [hg]; exact (below_size (by repeat (first | (with_reducible first | exact HB.out | apply below_alloc | apply pw_below_drewN | apply below_drew1) | exact HB.out))) : w.heap.size ≤ gb308)); clear HB; have HB := n0_; have BK308 := n1_; have GW308 := n2_; have GE308 := n3_; clear n0_ n1_ n2_ n3_; clear hb hbox hg) | ((with_reducible refine gate_dst (N := 3) rfl ?_); refine box_event ?hg (N := 3) ?hd (cs := #[.string a1_0, .int .i64 a1_1, .int .i64 a1_2, .float .f64 a1_3, .bool a1_4, .bool a1_5]) (t := 44) ?hr ?_; (case hd => rfl); (case hg => rfl); (case hr => first | (go_simp; done) | (go_simp; rfl)); intro gb309 hg w25 hbox hb; have n0_ := Aside0.mk (blk_below (g := gb308) (o := .cells #[.string a0_0, .int .i64 a0_1, .int .i64 a0_2, .float .f64 a0_3, .bool a0_4, .bool a0_5] 44 (0, 0)) (by (with_reducible repeat (first | refine blk_drewN ?_ _ | refine blk_drew ?_ | refine blk_alloc ?_ _)); exact BK308.out) hb); have n1_ := Aside0.mk (below_step (by repeat (first | (with_reducible first | exact HB.out | apply below_alloc | apply pw_below_drewN | apply below_drew1 | refine below_set ?_ GE308.out) | exact HB.out)) hb); have n2_ := Aside0.mk (hbox); have n3_ := Aside0.mk ((by rw [hg]; exact (below_size (by repeat (first | (with_reducible first | exact HB.out | apply below_alloc | apply pw_below_drewN | apply below_drew1 | refine below_set ?_ GE308.out) | exact HB.out))) : w.heap.size ≤ gb309)); have n4_ := Aside0.mk ((by rw [hg]; exact (below_size (by repeat (first | (with_reducible first | exact HB.out | apply below_alloc | apply pw_below_drewN | apply below_drew1 | refine below_set ?_ GE308.out) | exact HB.out))) : w.heap.size ≤ gb309)); have n5_ := Aside0.mk ((by rw [hg]; exact Nat.ne_of_lt (blk_lt (g := gb308) (o := .cells #[.string a0_0, .int .i64 a0_1, .int .i64 a0_2, .float .f64 a0_3, .bool a0_4, .bool a0_5] 44 (0, 0)) (by (with_reducible repeat (first | refine blk_drewN ?_ _ | refine blk_drew ?_ | refine blk_alloc ?_ _)); exact BK308.out)) : gb308 ≠ gb309)); have n6_ := Aside0.mk ((by rw [hg]; exact Nat.ne_of_gt (blk_lt (g := gb308) (o := .cells #[.string a0_0, .int .i64 a0_1, .int .i64 a0_2, .float .f64 a0_3, .bool a0_4, .bool a0_5] 44 (0, 0)) (by (with_reducible repeat (first | refine blk_drewN ?_ _ | refine blk_drew ?_ | refine blk_alloc ?_ _)); exact BK308.out)) : gb309 ≠ gb308)); clear BK308; clear HB; have BK308 := n0_; have HB := n1_; have BK309 := n2_; have GW309 := n3_; have GE309 := n4_; have NB308_309 := n5_; have NB309_308 := n6_; clear n0_ n1_ n2_ n3_ n4_ n5_ n6_; clear hb hbox hg; have hnb26 := NB308_309.out; have hnc26 := NB309_308.out; have hcz27_0 : w25.cell? ⟨gb308, 0, none⟩ = some (.string a0_0) := (blk_cell BK308.out 0).trans rfl; have hcz27_1 : w25.cell? ⟨gb308, 1, none⟩ = some (.int .i64 a0_1) := (blk_cell BK308.out 1).trans rfl; have hcz27_2 : w25.cell? ⟨gb308, 2, none⟩ = some (.int .i64 a0_2) := (blk_cell BK308.out 2).trans rfl; have hcz27_3 : w25.cell? ⟨gb308, 3, none⟩ = some (.float .f64 a0_3) := (blk_cell BK308.out 3).trans rfl; have hcz27_4 : w25.cell? ⟨gb308, 4, none⟩ = some (.bool a0_4) := (blk_cell BK308.out 4).trans rfl; have hcz27_5 : w25.cell? ⟨gb308, 5, none⟩ = some (.bool a0_5) := (blk_cell BK308.out 5).trans rfl; have hfz27_0 := blk_frozen BK308.out 0; have hfz27_1 := blk_frozen BK308.out 1; have hfz27_2 := blk_frozen BK308.out 2; have hfz27_3 := blk_frozen BK308.out 3; have hfz27_4 := blk_frozen BK308.out 4; have hfz27_5 := blk_frozen BK308.out 5; have hcz28_0 : w25.cell? ⟨gb309, 0, none⟩ = some (.string a1_0) := (blk_cell BK309.out 0).trans rfl; have hcz28_1 : w25.cell? ⟨gb309, 1, none⟩ = some (.int .i64 a1_1) := (blk_cell BK309.out 1).trans rfl; have hcz28_2 : w25.cell? ⟨gb309, 2, none⟩ = some (.int .i64 a1_2) := (blk_cell BK309.out 2).trans rfl; have hcz28_3 : w25.cell? ⟨gb309, 3, none⟩ = some (.float .f64 a1_3) := (blk_cell BK309.out 3).trans rfl; have hcz28_4 : w25.cell? ⟨gb309, 4, none⟩ = some (.bool a1_4) := (blk_cell BK309.out 4).trans rfl; have hcz28_5 : w25.cell? ⟨gb309, 5, none⟩ = some (.bool a1_5) := (blk_cell BK309.out 5).trans rfl; have hfz28_0 := blk_frozen BK309.out 0; have hfz28_1 := blk_frozen BK309.out 1; have hfz28_2 := blk_frozen BK309.out 2; have hfz28_3 := blk_frozen BK309.out 3; have hfz28_4 := blk_frozen BK309.out 4; have hfz28_5 := blk_frozen BK309.out 5))
        go_ret
        exact ⟨by first | rfl | (simp [errW_none, errW_some] <;> rfl) | (simp [*, errW_none, errW_some] <;> rfl), by repeat (first | (with_reducible first | exact HB.out | apply below_alloc | apply pw_below_drewN | apply below_drew1 | refine below_set ?_ GE308.out | refine below_set ?_ GE309.out) | exact HB.out)⟩
    · rw [if_neg c4] at H
      have c4b0 : (a0_1 == a1_1) = false := beq_eq_false_iff_ne.mpr c4
      have c4b1 : (a0_1 != a1_1) = true := bne_iff_ne.mpr c4
      obtain rfl := Option.some.inj H
      go_enter Try.func50, Try.ntmps50
      go_wp2_with (first | ((with_reducible refine gate_dst (N := 2) rfl ?_); refine box_event ?hg (N := 2) ?hd (cs := #[.string a0_0, .int .i64 a0_1, .int .i64 a0_2, .float .f64 a0_3, .bool a0_4, .bool a0_5]) (t := 44) ?hr ?_; (case hd => rfl); (case hg => rfl); (case hr => first | (go_simp; done) | (go_simp; rfl)); intro gb308 hg w29 hbox hb; have n0_ := Aside0.mk (below_step (by repeat (first | (with_reducible first | exact HB.out | apply below_alloc | apply pw_below_drewN | apply below_drew1) | exact HB.out)) hb); have n1_ := Aside0.mk (hbox); have n2_ := Aside0.mk ((by rw [hg]; exact (below_size (by repeat (first | (with_reducible first | exact HB.out | apply below_alloc | apply pw_below_drewN | apply below_drew1) | exact HB.out))) : w.heap.size ≤ gb308)); have n3_ := Aside0.mk ((by rw [hg]; exact (below_size (by repeat (first | (with_reducible first | exact HB.out | apply below_alloc | apply pw_below_drewN | apply below_drew1) | exact HB.out))) : w.heap.size ≤ gb308)); clear HB; have HB := n0_; have BK308 := n1_; have GW308 := n2_; have GE308 := n3_; clear n0_ n1_ n2_ n3_; clear hb hbox hg) | ((with_reducible refine gate_dst (N := 3) rfl ?_); refine box_event ?hg (N := 3) ?hd (cs := #[.string a1_0, .int .i64 a1_1, .int .i64 a1_2, .float .f64 a1_3, .bool a1_4, .bool a1_5]) (t := 44) ?hr ?_; (case hd => rfl); (case hg => rfl); (case hr => first | (go_simp; done) | (go_simp; rfl)); intro gb309 hg w30 hbox hb; have n0_ := Aside0.mk (blk_below (g := gb308) (o := .cells #[.string a0_0, .int .i64 a0_1, .int .i64 a0_2, .float .f64 a0_3, .bool a0_4, .bool a0_5] 44 (0, 0)) (by (with_reducible repeat (first | refine blk_drewN ?_ _ | refine blk_drew ?_ | refine blk_alloc ?_ _)); exact BK308.out) hb); have n1_ := Aside0.mk (below_step (by repeat (first | (with_reducible first | exact HB.out | apply below_alloc | apply pw_below_drewN | apply below_drew1 | refine below_set ?_ GE308.out) | exact HB.out)) hb); have n2_ := Aside0.mk (hbox); have n3_ := Aside0.mk ((by rw [hg]; exact (below_size (by repeat (first | (with_reducible first | exact HB.out | apply below_alloc | apply pw_below_drewN | apply below_drew1 | refine below_set ?_ GE308.out) | exact HB.out))) : w.heap.size ≤ gb309)); have n4_ := Aside0.mk ((by rw [hg]; exact (below_size (by repeat (first | (with_reducible first | exact HB.out | apply below_alloc | apply pw_below_drewN | apply below_drew1 | refine below_set ?_ GE308.out) | exact HB.out))) : w.heap.size ≤ gb309)); have n5_ := Aside0.mk ((by rw [hg]; exact Nat.ne_of_lt (blk_lt (g := gb308) (o := .cells #[.string a0_0, .int .i64 a0_1, .int .i64 a0_2, .float .f64 a0_3, .bool a0_4, .bool a0_5] 44 (0, 0)) (by (with_reducible repeat (first | refine blk_drewN ?_ _ | refine blk_drew ?_ | refine blk_alloc ?_ _)); exact BK308.out)) : gb308 ≠ gb309)); have n6_ := Aside0.mk ((by rw [hg]; exact Nat.ne_of_gt (blk_lt (g := gb308) (o := .cells #[.string a0_0, .int .i64 a0_1, .int .i64 a0_2, .float .f64 a0_3, .bool a0_4, .bool a0_5] 44 (0, 0)) (by (with_reducible repeat (first | refine blk_drewN ?_ _ | refine blk_drew ?_ | refine blk_alloc ?_ _)); exact BK308.out)) : gb309 ≠ gb308)); clear BK308; clear HB; have BK308 := n0_; have HB := n1_; have BK309 := n2_; have GW309 := n3_; have GE309 := n4_; have NB308_309 := n5_; have NB309_308 := n6_; clear n0_ n1_ n2_ n3_ n4_ n5_ n6_; clear hb hbox hg; have hnb31 := NB308_309.out; have hnc31 := NB309_308.out; have hcz32_0 : w30.cell? ⟨gb308, 0, none⟩ = some (.string a0_0) := (blk_cell BK308.out 0).trans rfl; have hcz32_1 : w30.cell? ⟨gb308, 1, none⟩ = some (.int .i64 a0_1) := (blk_cell BK308.out 1).trans rfl; have hcz32_2 : w30.cell? ⟨gb308, 2, none⟩ = some (.int .i64 a0_2) := (blk_cell BK308.out 2).trans rfl; have hcz32_3 : w30.cell? ⟨gb308, 3, none⟩ = some (.float .f64 a0_3) := (blk_cell BK308.out 3).trans rfl; have hcz32_4 : w30.cell? ⟨gb308, 4, none⟩ = some (.bool a0_4) := (blk_cell BK308.out 4).trans rfl; have hcz32_5 : w30.cell? ⟨gb308, 5, none⟩ = some (.bool a0_5) := (blk_cell BK308.out 5).trans rfl; have hfz32_0 := blk_frozen BK308.out 0; have hfz32_1 := blk_frozen BK308.out 1; have hfz32_2 := blk_frozen BK308.out 2; have hfz32_3 := blk_frozen BK308.out 3; have hfz32_4 := blk_frozen BK308.out 4; have hfz32_5 := blk_frozen BK308.out 5; have hcz33_0 : w30.cell? ⟨gb309, 0, none⟩ = some (.string a1_0) := (blk_cell BK309.out 0).trans rfl; have hcz33_1 : w30.cell? ⟨gb309, 1, none⟩ = some (.int .i64 a1_1) := (blk_cell BK309.out 1).trans rfl; have hcz33_2 : w30.cell? ⟨gb309, 2, none⟩ = some (.int .i64 a1_2) := (blk_cell BK309.out 2).trans rfl; have hcz33_3 : w30.cell? ⟨gb309, 3, none⟩ = some (.float .f64 a1_3) := (blk_cell BK309.out 3).trans rfl; have hcz33_4 : w30.cell? ⟨gb309, 4, none⟩ = some (.bool a1_4) := (blk_cell BK309.out 4).trans rfl; have hcz33_5 : w30.cell? ⟨gb309, 5, none⟩ = some (.bool a1_5) := (blk_cell BK309.out 5).trans rfl; have hfz33_0 := blk_frozen BK309.out 0; have hfz33_1 := blk_frozen BK309.out 1; have hfz33_2 := blk_frozen BK309.out 2; have hfz33_3 := blk_frozen BK309.out 3; have hfz33_4 := blk_frozen BK309.out 4; have hfz33_5 := blk_frozen BK309.out 5))
      go_ret
      exact ⟨by first | rfl | (simp [errW_none, errW_some] <;> rfl) | (simp [*, errW_none, errW_some] <;> rfl), by repeat (first | (with_reducible first | exact HB.out | apply below_alloc | apply pw_below_drewN | apply below_drew1 | refine below_set ?_ GE308.out | refine below_set ?_ GE309.out) | exact HB.out)⟩
  · rw [if_neg c3] at H
    have c3b0 : (a0_0.toList == a1_0.toList) = false := beq_eq_false_iff_ne.mpr c3
    have c3b1 : (a0_0.toList != a1_0.toList) = true := bne_iff_ne.mpr c3
    obtain rfl := Option.some.inj H
    go_enter Try.func50, Try.ntmps50
    go_wp2_with (first | ((with_reducible refine gate_dst (N := 2) rfl ?_); refine box_event ?hg (N := 2) ?hd (cs := #[.string a0_0, .int .i64 a0_1, .int .i64 a0_2, .float .f64 a0_3, .bool a0_4, .bool a0_5]) (t := 44) ?hr ?_; (case hd => rfl); (case hg => rfl); (case hr => first | (go_simp; done) | (go_simp; rfl)); intro gb308 hg w34 hbox hb; have n0_ := Aside0.mk (below_step (by repeat (first | (with_reducible first | exact HB.out | apply below_alloc | apply pw_below_drewN | apply below_drew1) | exact HB.out)) hb); have n1_ := Aside0.mk (hbox); have n2_ := Aside0.mk ((by rw [hg]; exact (below_size (by repeat (first | (with_reducible first | exact HB.out | apply below_alloc | apply pw_below_drewN | apply below_drew1) | exact HB.out))) : w.heap.size ≤ gb308)); have n3_ := Aside0.mk ((by rw [hg]; exact (below_size (by repeat (first | (with_reducible first | exact HB.out | apply below_alloc | apply pw_below_drewN | apply below_drew1) | exact HB.out))) : w.heap.size ≤ gb308)); clear HB; have HB := n0_; have BK308 := n1_; have GW308 := n2_; have GE308 := n3_; clear n0_ n1_ n2_ n3_; clear hb hbox hg) | ((with_reducible refine gate_dst (N := 3) rfl ?_); refine box_event ?hg (N := 3) ?hd (cs := #[.string a1_0, .int .i64 a1_1, .int .i64 a1_2, .float .f64 a1_3, .bool a1_4, .bool a1_5]) (t := 44) ?hr ?_; (case hd => rfl); (case hg => rfl); (case hr => first | (go_simp; done) | (go_simp; rfl)); intro gb309 hg w35 hbox hb; have n0_ := Aside0.mk (blk_below (g := gb308) (o := .cells #[.string a0_0, .int .i64 a0_1, .int .i64 a0_2, .float .f64 a0_3, .bool a0_4, .bool a0_5] 44 (0, 0)) (by (with_reducible repeat (first | refine blk_drewN ?_ _ | refine blk_drew ?_ | refine blk_alloc ?_ _)); exact BK308.out) hb); have n1_ := Aside0.mk (below_step (by repeat (first | (with_reducible first | exact HB.out | apply below_alloc | apply pw_below_drewN | apply below_drew1 | refine below_set ?_ GE308.out) | exact HB.out)) hb); have n2_ := Aside0.mk (hbox); have n3_ := Aside0.mk ((by rw [hg]; exact (below_size (by repeat (first | (with_reducible first | exact HB.out | apply below_alloc | apply pw_below_drewN | apply below_drew1 | refine below_set ?_ GE308.out) | exact HB.out))) : w.heap.size ≤ gb309)); have n4_ := Aside0.mk ((by rw [hg]; exact (below_size (by repeat (first | (with_reducible first | exact HB.out | apply below_alloc | apply pw_below_drewN | apply below_drew1 | refine below_set ?_ GE308.out) | exact HB.out))) : w.heap.size ≤ gb309)); have n5_ := Aside0.mk ((by rw [hg]; exact Nat.ne_of_lt (blk_lt (g := gb308) (o := .cells #[.string a0_0, .int .i64 a0_1, .int .i64 a0_2, .float .f64 a0_3, .bool a0_4, .bool a0_5] 44 (0, 0)) (by (with_reducible repeat (first | refine blk_drewN ?_ _ | refine blk_drew ?_ | refine blk_alloc ?_ _)); exact BK308.out)) : gb308 ≠ gb309)); have n6_ := Aside0.mk ((by rw [hg]; exact Nat.ne_of_gt (blk_lt (g := gb308) (o := .cells #[.string a0_0, .int .i64 a0_1, .int .i64 a0_2, .float .f64 a0_3, .bool a0_4, .bool a0_5] 44 (0, 0)) (by (with_reducible repeat (first | refine blk_drewN ?_ _ | refine blk_drew ?_ | refine blk_alloc ?_ _)); exact BK308.out)) : gb309 ≠ gb308)); clear BK308; clear HB; have BK308 := n0_; have HB := n1_; have BK309 := n2_; have GW309 := n3_; have GE309 := n4_; have NB308_309 := n5_; have NB309_308 := n6_; clear n0_ n1_ n2_ n3_ n4_ n5_ n6_; clear hb hbox hg; have hnb36 := NB308_309.out; have hnc36 := NB309_308.out; have hcz37_0 : w35.cell? ⟨gb308, 0, none⟩ = some (.string a0_0) := (blk_cell BK308.out 0).trans rfl; have hcz37_1 : w35.cell? ⟨gb308, 1, none⟩ = some (.int .i64 a0_1) := (blk_cell BK308.out 1).trans rfl; have hcz37_2 : w35.cell? ⟨gb308, 2, none⟩ = some (.int .i64 a0_2) := (blk_cell BK308.out 2).trans rfl; have hcz37_3 : w35.cell? ⟨gb308, 3, none⟩ = some (.float .f64 a0_3) := (blk_cell BK308.out 3).trans rfl; have hcz37_4 : w35.cell? ⟨gb308, 4, none⟩ = some (.bool a0_4) := (blk_cell BK308.out 4).trans rfl; have hcz37_5 : w35.cell? ⟨gb308, 5, none⟩ = some (.bool a0_5) := (blk_cell BK308.out 5).trans rfl; have hfz37_0 := blk_frozen BK308.out 0; have hfz37_1 := blk_frozen BK308.out 1; have hfz37_2 := blk_frozen BK308.out 2; have hfz37_3 := blk_frozen BK308.out 3; have hfz37_4 := blk_frozen BK308.out 4; have hfz37_5 := blk_frozen BK308.out 5; have hcz38_0 : w35.cell? ⟨gb309, 0, none⟩ = some (.string a1_0) := (blk_cell BK309.out 0).trans rfl; have hcz38_1 : w35.cell? ⟨gb309, 1, none⟩ = some (.int .i64 a1_1) := (blk_cell BK309.out 1).trans rfl; have hcz38_2 : w35.cell? ⟨gb309, 2, none⟩ = some (.int .i64 a1_2) := (blk_cell BK309.out 2).trans rfl; have hcz38_3 : w35.cell? ⟨gb309, 3, none⟩ = some (.float .f64 a1_3) := (blk_cell BK309.out 3).trans rfl; have hcz38_4 : w35.cell? ⟨gb309, 4, none⟩ = some (.bool a1_4) := (blk_cell BK309.out 4).trans rfl; have hcz38_5 : w35.cell? ⟨gb309, 5, none⟩ = some (.bool a1_5) := (blk_cell BK309.out 5).trans rfl; have hfz38_0 := blk_frozen BK309.out 0; have hfz38_1 := blk_frozen BK309.out 1; have hfz38_2 := blk_frozen BK309.out 2; have hfz38_3 := blk_frozen BK309.out 3; have hfz38_4 := blk_frozen BK309.out 4; have hfz38_5 := blk_frozen BK309.out 5))
    go_ret
    exact ⟨by first | rfl | (simp [errW_none, errW_some] <;> rfl) | (simp [*, errW_none, errW_some] <;> rfl), by repeat (first | (with_reducible first | exact HB.out | apply below_alloc | apply pw_below_drewN | apply below_drew1 | refine below_set ?_ GE308.out | refine below_set ?_ GE309.out) | exact HB.out)⟩
end Go.Proofs.Ytipbigdpannlcaa.PTrieFits
