-- WRITTEN BY THIS SESSION'S mprint.py upon the print: some functions are proved by hand
import Derived.Test.YtpemmaffbcbcjaaDoorPDescApartx0
import Derived.Test.YtpemmaffbcbcjaaDoorPDescApartx2
namespace Go.Proofs.YtpemmaffbcbcjaaDoor.PDescApart
open Go.RowKit Go.Proofs.YtpemmaffbcbcjaaDoorW.PrintWords Go.Proofs.YtpemmaffbcbcjaaDoorW.PrintLast Go.Proofs.YtpemmaffbcbcjaaDoorW.PrintMore
attribute [local go_sem] max2_int min2_int max_two min_two max_three min_three max_four min_four   -- for this text's walks alone
set_option linter.unusedVariables false
set_option linter.unusedSimpArgs false

/-! ### desc_Text: function 14 -/
def desc_Text.l0 : Nat → List ByteArray → List (S47) → Int → Int → Option (ByteArray)
  | 0, _, _, _, _ => none
  | k + 1, x3, x10, x11, x12 => if x12 < x11 then (if 0 ≤ x12 then (if x12 < (x10.length : Int) then ((desc_Escape.f ((rd_T47 x10 x12).f0)).bind fun t112 => (if t112.size + 1 ≤ 9223372036854775807 then ((desc_Escape.f ((rd_T47 x10 x12).f1)).bind fun t113 => (if t112.size + 1 + t113.size ≤ 9223372036854775807 then (if x3.length < 8796093022208 then (desc_Text.l0 k (x3 ++ [(t112 ++ (⟨#[61]⟩ : ByteArray)) ++ t113]) x10 x11 (wrap64 (x12 + 1))) else (none)) else (none))) else (none))) else (none)) else (none)) else ((strings_Join.f x3 (⟨#[44]⟩ : ByteArray)).bind fun t117 => (some t117))
def desc_Text.f (k : Nat) (l0_0 : List (S47)) : Option (ByteArray) := (desc_Check.f k l0_0).bind fun t109 => (if t109 = 0 then (desc_Text.l0 k ([] : List ByteArray) l0_0 (l0_0.length : Int) 0) else (some (⟨#[]⟩ : ByteArray)))
theorem desc_Text.mono_l : ∀ k, (∀ y0 y1 y2 y3, LeO (desc_Text.l0 k y0 y1 y2 y3) (desc_Text.l0 (k + 1) y0 y1 y2 y3))
  | 0 => fun _ _ _ _ r h => by simp [desc_Text.l0] at h
  | k + 1 => by
    have ih0 := desc_Text.mono_l k
    · intro y0 y1 y2 y3
      unfold desc_Text.l0
      repeat' first
      | (with_reducible exact ih0 _ _ _ _)
      | (with_reducible exact desc_Check.mono _ _)
      | (with_reducible exact LeO.refl _)
      | (with_reducible exact LeO.none _)
      | (with_reducible refine LeO.ite ?_ ?_)
      | (with_reducible refine LeO.bind ?_ (fun _ => ?_))
      | exact ih0 _ _ _ _
      | exact desc_Check.mono _ _
      | exact LeO.none _
      | refine LeO.ite ?_ ?_
      | refine LeO.bind ?_ (fun _ => ?_)
theorem desc_Text.mono : ∀ a0 k, LeO (desc_Text.f k a0) (desc_Text.f (k + 1) a0) := by
  intro a0 k
  have ih0 := desc_Text.mono_l k
  unfold desc_Text.f
  repeat' first
      | (with_reducible exact ih0 _ _ _ _)
      | (with_reducible exact desc_Check.mono _ _)
      | (with_reducible exact LeO.refl _)
      | (with_reducible exact LeO.none _)
      | (with_reducible refine LeO.ite ?_ ?_)
      | (with_reducible refine LeO.bind ?_ (fun _ => ?_))
      | exact ih0 _ _ _ _
      | exact desc_Check.mono _ _
      | exact LeO.none _
      | refine LeO.ite ?_ ?_
      | refine LeO.bind ?_ (fun _ => ?_)
def desc_Text.T7 : Bool × List (List Nat × List Nat) := (true, [([], []), ([], []), ([1], [1]), ([2], [2]), ([3], [3]), ([], []), ([5], [5]), ([6, 3], [6]), ([4, 7], [4, 7]), ([8], [8]), ([0, 9, 7], [0, 9]), ([10, 10, 0, 1, 2, 3, 4, 5, 6, 7, 8, 9, 10], [0, 10])])
def desc_Text.B7 : List Nat := [0, 0, 2, 6, 14, 0, 32, 110, 254, 510, 1023, 2047]
theorem desc_Text.tab7 : rtab .any (opsOf Tryd.f14 7) = desc_Text.T7 := by kernel_rfl
theorem desc_Text.bits7 : waitsOk desc_Text.T7.2 desc_Text.B7 = true := by kernel_rfl
set_option maxHeartbeats 8000000 in
set_option maxRecDepth 100000 in
theorem desc_Text.calls (k : Nat) (A0_0 : Option Addr) (c0_0 : Nat) (l0_0 : List (S47)) (r : ByteArray) (w : World) (hr0_0 : Kd.C k47 w A0_0 l0_0.length l0_0) (hc0_0 : l0_0.length ≤ c0_0) (h : desc_Text.f k l0_0 = some r) :
    Calls Tryd.prog 14 #[.agg #[.slice A0_0 l0_0.length c0_0]] w fun e w' => e = .returned (.string r) ∧ Below w.heap.size w w' := by
  have hu24 := Tryd.underlying24
  have hu47 := Tryd.underlying47
  have HR0_0 := Aside0.mk hr0_0
  have HC0_0 := Aside0.mk hc0_0
  clear hr0_0 hc0_0
  have HB := Aside0.mk (Below.refl w.heap.size w)
  have H : ((desc_Check.f k l0_0).bind fun t109 => (if t109 = 0 then (desc_Text.l0 k ([] : List ByteArray) l0_0 (l0_0.length : Int) 0) else (some (⟨#[]⟩ : ByteArray)))) = some r := h
  clear h
  replace H := Option.bind_eq_some_iff.mp H
  obtain ⟨t109, A20, H⟩ := H
  replace H : (if t109 = 0 then (desc_Text.l0 k ([] : List ByteArray) l0_0 (l0_0.length : Int) 0) else (some (⟨#[]⟩ : ByteArray))) = some r := H
  have A2 := Aside0.mk A20
  clear A20
  by_cases c3 : t109 = 0
  · rw [if_pos c3] at H
    have c3b0 : (t109 == 0) = true := beq_iff_eq.mpr c3
    have c3b1 : (t109 != 0) = false := bne_eq_false_iff_eq.mpr c3
    clear c3
    have H' := Aside0.mk H
    clear H
    go_enter Tryd.func14, Tryd.ntmps14
    go_wp2_with (first | ((with_reducible refine gate_dst (N := 1) rfl ?_); refine box_event ?hg (N := 1) ?hd (cs := #[.slice A0_0 l0_0.length c0_0]) (t := 24) ?hr ?_; (case hd => rfl); (case hg => rfl); (case hr => first | (go_simp; done) | (go_simp; rfl)); intro gb108 hg w4 hbox hb; have n0_ := Aside0.mk (below_step (by repeat (first | (with_reducible first | exact HB.out | apply below_alloc | apply pw_below_drewN | apply below_drew1) | exact HB.out)) hb); have n1_ := Aside0.mk (hbox); have n2_ := Aside0.mk ((by rw [hg]; exact (below_size (by repeat (first | (with_reducible first | exact HB.out | apply below_alloc | apply pw_below_drewN | apply below_drew1) | exact HB.out))) : w.heap.size ≤ gb108)); have n3_ := Aside0.mk ((by rw [hg]; exact (below_size (by repeat (first | (with_reducible first | exact HB.out | apply below_alloc | apply pw_below_drewN | apply below_drew1) | exact HB.out))) : w.heap.size ≤ gb108)); clear HB; have HB := n0_; have BK108 := n1_; have GW108 := n2_; have GE108 := n3_; clear n0_ n1_ n2_ n3_; clear hb hbox hg; have hcz5_0 : w4.cell? ⟨gb108, 0, none⟩ = some (.slice A0_0 l0_0.length c0_0) := (blk_cell BK108.out 0).trans rfl; have hfz5_0 := blk_frozen BK108.out 0) | ((with_reducible refine gate_callee (f := 15) rfl ?_); refine goesL_ (some 7) rfl rfl Tryd.func15 (by kernel_rfl) rfl #[.agg #[.slice A0_0 l0_0.length c0_0]] rfl (by (try simp only [List.map_toArray, List.map_cons, List.map_nil]); first | done | rfl | (simp only [List.length_drop, List.length_take]; rfl)) ?_; (with_reducible refine (desc_Check.calls k _ _ l0_0 t109 _ ?side1 ?side2 A2.out).mono ?_); (case side1 => repeat (first | exact (Kd.C_below HR0_0.out HB.out) | (with_reducible refine Kd.C_alloc ?_ _) | (with_reducible refine Kd.C_drewN ?_ _) | (with_reducible refine Kd.C_drew ?_))); (case side2 => exact HC0_0.out); rintro e w6 ⟨rfl, hb⟩; refine ⟨_, rfl, ?_⟩; have n0_ := Aside0.mk (blk_below (g := gb108) (o := .cells #[.slice A0_0 l0_0.length c0_0] 24 (0, 0)) (by (with_reducible repeat (first | refine blk_drewN ?_ _ | refine blk_drew ?_ | refine blk_alloc ?_ _)); exact BK108.out) hb); have n1_ := Aside0.mk (below_step (by repeat (first | (with_reducible first | exact HB.out | apply below_alloc | apply pw_below_drewN | apply below_drew1 | refine below_set ?_ GE108.out) | exact HB.out)) hb); clear BK108; clear HB; have BK108 := n0_; have HB := n1_; clear n0_ n1_; (try clear hb); (try clear hb2); (try clear hk); (try clear hi); have hcz7_0 : w6.cell? ⟨gb108, 0, none⟩ = some (.slice A0_0 l0_0.length c0_0) := (blk_cell BK108.out 0).trans rfl; have hfz7_0 := blk_frozen BK108.out 0))
    go_loopg [3, 12] k (fun kq v3 v12 w' => ∃ (x3_1 : List ByteArray) (x12_1 : Int), v12 = .int .i64 x12_1 ∧ Aside0 (desc_Text.l0 kq x3_1 l0_0 (l0_0.length : Int) x12_1 = some r) ∧ Aside0 (kq ≤ k) ∧ Aside0 (Kd.R Kd.string 9 w' w.heap.size (fun _ => True) v3 x3_1) ∧ Aside0 (w'.heap[gb108]? = some (.cells #[(.slice A0_0 l0_0.length c0_0)] 24 (0, 0))) ∧ Aside0 (Below w.heap.size w w'))
    case atStart => exact ⟨(([] : List ByteArray)), (0), (by first | rfl | (simp; done) | (simp [*]; done)), H', ⟨Nat.le_refl _⟩, ⟨by first | exact Kd.R_nil _ _ _ _ _ | exact Kd.N_nil _ _ _ _ _ | exact Kd.V_nil _ _ _ _ _ | exact Kd.Q_nil _ _ _ _ _ | exact Kd.S_nil _ _ _ _ _⟩, ⟨by (with_reducible repeat (first | refine blk_drewN ?_ _ | refine blk_drew ?_ | refine blk_alloc ?_ _)); exact BK108.out⟩, ⟨by repeat (first | (with_reducible first | exact HB.out | apply below_alloc | apply pw_below_drewN | apply below_drew1 | refine below_set ?_ GE108.out) | exact HB.out)⟩⟩
    case round =>
      clear H'
      try clear c1
      try clear p2
      try clear c3
      try clear c3b0
      try clear c3b1
      try clear hcz5_0
      try clear hcz7_0
      try clear hfz5_0
      try clear hfz7_0
      obtain ⟨x3_1, x12_1, rfl, HA, HK1, HO_3, BK108, HB⟩ := hrel
      cases gk with
      | zero => exact absurd HA.out (by simp [desc_Text.l0])
      | succ k1 =>
        have H := HA.out
        clear HA
        simp only [desc_Text.l0] at H
        by_cases c8 : x12_1 < (l0_0.length : Int)
        · rw [if_pos c8] at H
          have c8b0 : decide (x12_1 < (l0_0.length : Int)) = true := decide_eq_true c8
          clear c8
          by_cases c9 : 0 ≤ x12_1
          · rw [if_pos c9] at H
            have c9b0 : decide (0 ≤ x12_1) = true := decide_eq_true c9
            clear c9
            by_cases c10 : x12_1 < (l0_0.length : Int)
            · rw [if_pos c10] at H
              have c10b0 : decide (x12_1 < (l0_0.length : Int)) = true := decide_eq_true c10
              clear c10
              replace H := Option.bind_eq_some_iff.mp H
              obtain ⟨t112, A110, H⟩ := H
              replace H : (if t112.size + 1 ≤ 9223372036854775807 then ((desc_Escape.f ((rd_T47 l0_0 x12_1).f1)).bind fun t113 => (if t112.size + 1 + t113.size ≤ 9223372036854775807 then (if x3_1.length < 8796093022208 then (desc_Text.l0 k1 (x3_1 ++ [(t112 ++ (⟨#[61]⟩ : ByteArray)) ++ t113]) l0_0 (l0_0.length : Int) (wrap64 (x12_1 + 1))) else (none)) else (none))) else (none)) = some r := H
              have A11 := Aside0.mk A110
              clear A110
              by_cases c12 : t112.size + 1 ≤ 9223372036854775807
              · rw [if_pos c12] at H
                have c12b0 := eq_true c12
                have c12b1 : decide (t112.size + 1 ≤ 9223372036854775807) = true := decide_eq_true c12
                try have c12b2 : (9223372036854775807 < t112.size + 1) = False := eq_false (Nat.not_lt.2 c12)
                replace H := Option.bind_eq_some_iff.mp H
                obtain ⟨t113, A130, H⟩ := H
                replace H : (if t112.size + 1 + t113.size ≤ 9223372036854775807 then (if x3_1.length < 8796093022208 then (desc_Text.l0 k1 (x3_1 ++ [(t112 ++ (⟨#[61]⟩ : ByteArray)) ++ t113]) l0_0 (l0_0.length : Int) (wrap64 (x12_1 + 1))) else (none)) else (none)) = some r := H
                have A13 := Aside0.mk A130
                clear A130
                by_cases c14 : t112.size + 1 + t113.size ≤ 9223372036854775807
                · rw [if_pos c14] at H
                  have c14b0 := eq_true c14
                  have c14b1 : decide (t112.size + 1 + t113.size ≤ 9223372036854775807) = true := decide_eq_true c14
                  try have c14b2 : (9223372036854775807 < t112.size + 1 + t113.size) = False := eq_false (Nat.not_lt.2 c14)
                  by_cases c15 : x3_1.length < 8796093022208
                  · rw [if_pos c15] at H
                    have LMc15 := Aside0.mk c15
                    clear c15
                    obtain ⟨y114, hy114⟩ : ∃ y_ : List ByteArray, y_ = (x3_1 ++ [(t112 ++ (⟨#[61]⟩ : ByteArray)) ++ t113]) := ⟨_, rfl⟩
                    replace H : (desc_Text.l0 k1 y114 l0_0 (l0_0.length : Int) (wrap64 (x12_1 + 1))) = some r := by first | (rw [hy114]; with_reducible exact H) | (have H2_ := (Option.bind_some _ _).symm.trans H; rw [hy114]; with_reducible exact H2_) | (have H2_ := (Option.bind_some _ _).symm.trans H; with_reducible exact H2_) | with_reducible exact H | (rw [hy114]; exact H) | exact H
                    have Ny114 := Aside0.mk hy114
                    clear hy114
                    have H' := Aside0.mk H
                    clear H
                    have p110 : 0 ≤ (x12_1 : Int) := of_decide_eq_true (by first | (with_reducible assumption) | assumption)
                    have q110 : x12_1 < (l0_0.length : Int) := of_decide_eq_true (by first | (with_reducible assumption) | assumption)
                    obtain ⟨ad110, e110, hx110_0, hx110_1⟩ := at_T47 HR0_0.out x12_1 p110 q110
                    cases e110
                    replace hx110_0 := (HB.out.cell (World.block_lt_of_cell? w _ hx110_0)).trans hx110_0
                    replace hx110_1 := (HB.out.cell (World.block_lt_of_cell? w _ hx110_1)).trans hx110_1
                    replace p110 := eq_true p110
                    replace q110 := eq_true q110
                    try go_wp2_with (first | ((with_reducible refine gate_dst (N := 5) rfl ?_); refine box_event ?hg (N := 5) ?hd (cs := #[.string (⟨#[]⟩ : ByteArray), .string (⟨#[]⟩ : ByteArray)]) (t := 47) ?hr ?_; (case hd => rfl); (case hg => rfl); (case hr => first | (go_simp; done) | (go_simp; rfl)); intro gb111 hg w16 hbox hb; have n0_ := Aside0.mk (Kd.R_below (by (with_reducible repeat (first | apply Kd.R_alloc | apply Kd.R_drewN | apply Kd.R_drew)); exact HO_3.out) hb); have n1_ := Aside0.mk (blk_below (g := gb108) (o := .cells #[.slice (some ad110) l0_0.length c0_0] 24 (0, 0)) (by (with_reducible repeat (first | refine blk_drewN ?_ _ | refine blk_drew ?_ | refine blk_alloc ?_ _)); exact BK108.out) hb); have n2_ := Aside0.mk (below_step (by repeat (first | (with_reducible first | exact HB.out | apply below_alloc | apply pw_below_drewN | apply below_drew1 | refine below_set ?_ GE108.out) | exact HB.out)) hb); have n3_ := Aside0.mk (hbox); have n4_ := Aside0.mk ((by rw [hg]; exact (below_size (by repeat (first | (with_reducible first | exact HB.out | apply below_alloc | apply pw_below_drewN | apply below_drew1 | refine below_set ?_ GE108.out) | exact HB.out))) : w.heap.size ≤ gb111)); have n5_ := Aside0.mk ((by rw [hg]; exact (below_size (by repeat (first | (with_reducible first | exact HB.out | apply below_alloc | apply pw_below_drewN | apply below_drew1 | refine below_set ?_ GE108.out) | exact HB.out))) : w.heap.size ≤ gb111)); have n6_ := Aside0.mk ((by rw [hg]; exact Nat.ne_of_lt (blk_lt (g := gb108) (o := .cells #[.slice (some ad110) l0_0.length c0_0] 24 (0, 0)) (by (with_reducible repeat (first | refine blk_drewN ?_ _ | refine blk_drew ?_ | refine blk_alloc ?_ _)); exact BK108.out)) : gb108 ≠ gb111)); have n7_ := Aside0.mk ((by rw [hg]; exact Nat.ne_of_gt (blk_lt (g := gb108) (o := .cells #[.slice (some ad110) l0_0.length c0_0] 24 (0, 0)) (by (with_reducible repeat (first | refine blk_drewN ?_ _ | refine blk_drew ?_ | refine blk_alloc ?_ _)); exact BK108.out)) : gb111 ≠ gb108)); clear HO_3; clear BK108; clear HB; have HO_3 := n0_; have BK108 := n1_; have HB := n2_; have BK111 := n3_; have GW111 := n4_; have GE111 := n5_; have NB108_111 := n6_; have NB111_108 := n7_; clear n0_ n1_ n2_ n3_ n4_ n5_ n6_ n7_; clear hb hbox hg; have hnb17 := NB111_108.out; have hnc17 := NB108_111.out; have hcz18_0 : w16.cell? ⟨gb111, 0, none⟩ = some (.string (⟨#[]⟩ : ByteArray)) := (blk_cell BK111.out 0).trans rfl; have hcz18_1 : w16.cell? ⟨gb111, 1, none⟩ = some (.string (⟨#[]⟩ : ByteArray)) := (blk_cell BK111.out 1).trans rfl; have hfz18_0 := blk_frozen BK111.out 0; have hfz18_1 := blk_frozen BK111.out 1))
                    have n0_ : Aside0 (Kd.R Kd.string 9 ((w16.setCell ⟨gb111, 0, none⟩ (.string ((rd_T47 l0_0 x12_1).f0))).setCell ⟨gb111, 1, none⟩ (.string ((rd_T47 l0_0 x12_1).f1))) w.heap.size (fun _ => True) u3 x3_1) := ⟨by (with_reducible repeat (first | apply Kd.R_alloc | apply Kd.R_drewN | apply Kd.R_drew)); exact Kd.R_mono (Kd.R_far (p := ⟨gb111, 1, none⟩) (Kd.R_far (p := ⟨gb111, 0, none⟩) (Kd.R_types HO_3.out BK111.out (by decide)) (fun _ hk => hk.2) (.string ((rd_T47 l0_0 x12_1).f0))) (fun _ hk => hk.2) (.string ((rd_T47 l0_0 x12_1).f1))) (fun _ hk => trivial)⟩
                    have n1_ : Aside0 (((w16.setCell ⟨gb111, 0, none⟩ (.string ((rd_T47 l0_0 x12_1).f0))).setCell ⟨gb111, 1, none⟩ (.string ((rd_T47 l0_0 x12_1).f1))).heap[gb108]? = some (.cells #[.slice (some ad110) l0_0.length c0_0] 24 (0, 0))) := ⟨by (with_reducible repeat (first | refine blk_drewN ?_ _ | refine blk_drew ?_ | refine blk_alloc ?_ _)); refine blk_far ?_ NB108_111.out _; (with_reducible repeat (first | refine blk_drewN ?_ _ | refine blk_drew ?_ | refine blk_alloc ?_ _)); refine blk_far ?_ NB108_111.out _; (with_reducible repeat (first | refine blk_drewN ?_ _ | refine blk_drew ?_ | refine blk_alloc ?_ _)); exact BK108.out⟩
                    have n2_ : Aside0 (((w16.setCell ⟨gb111, 0, none⟩ (.string ((rd_T47 l0_0 x12_1).f0))).setCell ⟨gb111, 1, none⟩ (.string ((rd_T47 l0_0 x12_1).f1))).heap[gb111]? = some (.cells #[.string ((rd_T47 l0_0 x12_1).f0), .string ((rd_T47 l0_0 x12_1).f1)] 47 (0, 0))) := ⟨by (with_reducible repeat (first | refine blk_drewN ?_ _ | refine blk_drew ?_ | refine blk_alloc ?_ _)); refine blk_put (cs := #[.string ((rd_T47 l0_0 x12_1).f0), .string (⟨#[]⟩ : ByteArray)]) ?_ 1 _ rfl; (with_reducible repeat (first | refine blk_drewN ?_ _ | refine blk_drew ?_ | refine blk_alloc ?_ _)); refine blk_put (cs := #[.string (⟨#[]⟩ : ByteArray), .string (⟨#[]⟩ : ByteArray)]) ?_ 0 _ rfl; (with_reducible repeat (first | refine blk_drewN ?_ _ | refine blk_drew ?_ | refine blk_alloc ?_ _)); exact BK111.out⟩
                    have n3_ : Aside0 (Below w.heap.size w ((w16.setCell ⟨gb111, 0, none⟩ (.string ((rd_T47 l0_0 x12_1).f0))).setCell ⟨gb111, 1, none⟩ (.string ((rd_T47 l0_0 x12_1).f1)))) := ⟨by repeat (first | (with_reducible first | exact HB.out | apply below_alloc | apply pw_below_drewN | apply below_drew1 | refine below_set ?_ GE108.out | refine below_set ?_ GE111.out) | exact HB.out)⟩
                    (try clear HO_3)
                    (try clear BK108)
                    (try clear BK111)
                    (try clear HB)
                    generalize ((w16.setCell ⟨gb111, 0, none⟩ (.string ((rd_T47 l0_0 x12_1).f0))).setCell ⟨gb111, 1, none⟩ (.string ((rd_T47 l0_0 x12_1).f1))) = w19 at n0_ n1_ n2_ n3_ ⊢
                    have HO_3 := n0_
                    have BK108 := n1_
                    have BK111 := n2_
                    have HB := n3_
                    clear n0_ n1_ n2_ n3_
                    have n0_ := Aside0.mk (Kd.R_drew HO_3.out)
                    have n1_ := Aside0.mk (blk_drew BK108.out)
                    have n2_ := Aside0.mk (blk_drew BK111.out)
                    have n3_ := Aside0.mk (below_drew1 HB.out)
                    clear HO_3
                    clear BK108
                    clear BK111
                    clear HB
                    have HO_3 := n0_
                    have BK108 := n1_
                    have BK111 := n2_
                    have HB := n3_
                    clear n0_ n1_ n2_ n3_
                    refine start_ (n := 12) (S := fun w' => w'.cell? ⟨gb111, 0, none⟩ = some (.string ((rd_T47 l0_0 x12_1).f0)) ∧ w'.cell? ⟨gb111, 1, none⟩ = some (.string ((rd_T47 l0_0 x12_1).f1))) (ds := []) #[false, false, false, false, false, false, false, false, false, false, false, false] (by kernel_rfl) rfl rfl ⟨(blk_cell BK111.out 0).trans rfl, (blk_cell BK111.out 1).trans rfl⟩ (fun hHeld => ?_); refine with_tabW desc_Text.tab7 desc_Text.bits7 (fun HT_ HW_ => ?_)
                    generalize w19.drew = w20 at HO_3 BK108 BK111 HB hHeld ⊢
                    refine pure_ (i := 0) (N := some 16) (v := ?_) (a' := ?_) #[true, false, false, false, false, false, false, false, false, false, false, false] rfl rfl (any_of HT_.out (by kernel_rfl)) (fun _ _ _ h => h) (Or.inl ⟨by rfl, ?_⟩) ?_ ?_
                    rotate_left
                    · intro w'
                      go_simp
                      (first | with_reducible rfl | (rw [if_neg (by first | omega | (simp only [ByteArray.size_append] at *; omega) | (have hl_ : ∀ l_ : List UInt8, (⟨l_.toArray⟩ : ByteArray).size = l_.length := (fun l_ => by show l_.toArray.size = _; simp); simp only [ByteArray.size_append, hl_, List.length_cons, List.length_nil] at *; omega))]))
                    rotate_left
                    · simp only [Act.put, List.setIfInBounds_toArray, List.set_cons_zero, List.set_cons_succ, i64_w, i32_w]
                      rfl
                    refine pure_ (i := 1) (N := some 17) (v := ?_) (a' := ?_) #[true, true, false, false, false, false, false, false, false, false, false, false] rfl rfl (any_of HT_.out (by kernel_rfl)) (fun _ _ _ h => h) (Or.inl ⟨by rfl, ?_⟩) ?_ ?_
                    rotate_left
                    · intro w'
                      go_simp
                      (first | with_reducible rfl | (rw [if_neg (by first | omega | (simp only [ByteArray.size_append] at *; omega) | (have hl_ : ∀ l_ : List UInt8, (⟨l_.toArray⟩ : ByteArray).size = l_.length := (fun l_ => by show l_.toArray.size = _; simp); simp only [ByteArray.size_append, hl_, List.length_cons, List.length_nil] at *; omega))]))
                    rotate_left
                    · simp only [Act.put, List.setIfInBounds_toArray, List.set_cons_zero, List.set_cons_succ, i64_w, i32_w]
                      rfl
                    refine pure_ (i := 5) (N := some 21) (v := ?_) (a' := ?_) #[true, true, false, false, false, true, false, false, false, false, false, false] rfl rfl (any_of HT_.out (by kernel_rfl)) (fun _ _ _ h => h) (Or.inl ⟨by rfl, ?_⟩) ?_ ?_
                    rotate_left
                    · intro w'
                      go_simp
                      (first | with_reducible rfl | (rw [if_neg (by first | omega | (simp only [ByteArray.size_append] at *; omega) | (have hl_ : ∀ l_ : List UInt8, (⟨l_.toArray⟩ : ByteArray).size = l_.length := (fun l_ => by show l_.toArray.size = _; simp); simp only [ByteArray.size_append, hl_, List.length_cons, List.length_nil] at *; omega))]))
                    rotate_left
                    · simp only [Act.put, List.setIfInBounds_toArray, List.set_cons_zero, List.set_cons_succ, i64_w, i32_w]
                      rfl
                    refine take_ (i := 2) (N := some 18) (v := ?_) (a' := ?_) #[true, true, true, false, false, true, false, false, false, false, false, false] rfl rfl (take_ofW HT_.out HW_.out (by kernel_rfl)) (fun _ _ _ h => h) (Or.inl ⟨by rfl, ?_⟩) hHeld ?_ ?_
                    rotate_left
                    · rintro w' ⟨s0, s1⟩
                      go_simp
                      (first | with_reducible rfl | (rw [if_neg (by first | omega | (simp only [ByteArray.size_append] at *; omega) | (have hl_ : ∀ l_ : List UInt8, (⟨l_.toArray⟩ : ByteArray).size = l_.length := (fun l_ => by show l_.toArray.size = _; simp); simp only [ByteArray.size_append, hl_, List.length_cons, List.length_nil] at *; omega))]))
                    rotate_left
                    · simp only [Act.put, List.setIfInBounds_toArray, List.set_cons_zero, List.set_cons_succ, i64_w, i32_w]
                      rfl
                    refine take_ (i := 6) (N := some 22) (v := ?_) (a' := ?_) #[true, true, true, false, false, true, true, false, false, false, false, false] rfl rfl (take_ofW HT_.out HW_.out (by kernel_rfl)) (fun _ _ _ h => h) (Or.inl ⟨by rfl, ?_⟩) hHeld ?_ ?_
                    rotate_left
                    · rintro w' ⟨s0, s1⟩
                      go_simp
                      (first | with_reducible rfl | (rw [if_neg (by first | omega | (simp only [ByteArray.size_append] at *; omega) | (have hl_ : ∀ l_ : List UInt8, (⟨l_.toArray⟩ : ByteArray).size = l_.length := (fun l_ => by show l_.toArray.size = _; simp); simp only [ByteArray.size_append, hl_, List.length_cons, List.length_nil] at *; omega))]))
                    rotate_left
                    · simp only [Act.put, List.setIfInBounds_toArray, List.set_cons_zero, List.set_cons_succ, i64_w, i32_w]
                      rfl
                    refine one_ (i := 3) (N := some 19) #[true, true, true, true, false, true, true, false, false, false, false, false] rfl rfl (one_of HT_.out (by kernel_rfl)) (by decide) (fun K hK => ?_)
                    refine goes_ Tryd.func23 (by kernel_rfl) rfl #[.string ((rd_T47 l0_0 x12_1).f0)] (by rfl) rfl rfl (by (try simp only [List.map_toArray, List.map_cons, List.map_nil]); first | done | rfl | (simp only [List.length_drop, List.length_take]; rfl)) ?_
                    with_reducible refine (desc_Escape.calls ((rd_T47 l0_0 x12_1).f0) t112 _ A11.out).mono ?_
                    rintro e w21 ⟨rfl, hb⟩
                    refine ⟨_, rfl, ?_⟩
                    have n0_ := Aside0.mk (Kd.R_below (by (with_reducible repeat (first | apply Kd.R_alloc | apply Kd.R_drewN | apply Kd.R_drew)); exact HO_3.out) hb)
                    have n1_ := Aside0.mk (blk_below (g := gb108) (o := .cells #[.slice (some ad110) l0_0.length c0_0] 24 (0, 0)) (by (with_reducible repeat (first | refine blk_drewN ?_ _ | refine blk_drew ?_ | refine blk_alloc ?_ _)); exact BK108.out) hb)
                    have n2_ := Aside0.mk (blk_below (g := gb111) (o := .cells #[.string ((rd_T47 l0_0 x12_1).f0), .string ((rd_T47 l0_0 x12_1).f1)] 47 (0, 0)) (by (with_reducible repeat (first | refine blk_drewN ?_ _ | refine blk_drew ?_ | refine blk_alloc ?_ _)); exact BK111.out) hb)
                    have n3_ := Aside0.mk (below_step (by repeat (first | (with_reducible first | exact HB.out | apply below_alloc | apply pw_below_drewN | apply below_drew1 | refine below_set ?_ GE108.out | refine below_set ?_ GE111.out) | exact HB.out)) hb)
                    clear HO_3
                    clear BK108
                    clear BK111
                    clear HB
                    have HO_3 := n0_
                    have BK108 := n1_
                    have BK111 := n2_
                    have HB := n3_
                    clear n0_ n1_ n2_ n3_
                    (try clear hb)
                    (try clear hb2)
                    (try clear hk)
                    (try clear hi)
                    refine hK.out _ _ ⟨(blk_cell BK111.out 0).trans rfl, (blk_cell BK111.out 1).trans rfl⟩ (fun hHeld => ?_)
                    clear hK K
                    refine norm_ (a' := ?_) ?_ ?_
                    rotate_left
                    · show Act.put _ (some 19) _ = _
                      simp only [Act.put, List.setIfInBounds_toArray, List.set_cons_zero, List.set_cons_succ, i64_w, i32_w]
                      rfl
                    refine pure_ (i := 4) (N := some 20) (v := ?_) (a' := ?_) #[true, true, true, true, true, true, true, false, false, false, false, false] rfl rfl (any_of HT_.out (by kernel_rfl)) (fun _ _ _ h => h) (Or.inl ⟨by rfl, ?_⟩) ?_ ?_
                    rotate_left
                    · intro w'
                      go_simp
                      (first | with_reducible rfl | (rw [if_neg (by first | omega | (simp only [ByteArray.size_append] at *; omega) | (have hl_ : ∀ l_ : List UInt8, (⟨l_.toArray⟩ : ByteArray).size = l_.length := (fun l_ => by show l_.toArray.size = _; simp); simp only [ByteArray.size_append, hl_, List.length_cons, List.length_nil] at *; omega))]))
                    rotate_left
                    · simp only [Act.put, List.setIfInBounds_toArray, List.set_cons_zero, List.set_cons_succ, i64_w, i32_w]
                      rfl
                    refine one_ (i := 7) (N := some 23) #[true, true, true, true, true, true, true, true, false, false, false, false] rfl rfl (one_of HT_.out (by kernel_rfl)) (by decide) (fun K hK => ?_)
                    refine goes_ Tryd.func23 (by kernel_rfl) rfl #[.string ((rd_T47 l0_0 x12_1).f1)] (by rfl) rfl rfl (by (try simp only [List.map_toArray, List.map_cons, List.map_nil]); first | done | rfl | (simp only [List.length_drop, List.length_take]; rfl)) ?_
                    with_reducible refine (desc_Escape.calls ((rd_T47 l0_0 x12_1).f1) t113 _ A13.out).mono ?_
                    rintro e w22 ⟨rfl, hb⟩
                    refine ⟨_, rfl, ?_⟩
                    have n0_ := Aside0.mk (Kd.R_below (by (with_reducible repeat (first | apply Kd.R_alloc | apply Kd.R_drewN | apply Kd.R_drew)); exact HO_3.out) hb)
                    have n1_ := Aside0.mk (blk_below (g := gb108) (o := .cells #[.slice (some ad110) l0_0.length c0_0] 24 (0, 0)) (by (with_reducible repeat (first | refine blk_drewN ?_ _ | refine blk_drew ?_ | refine blk_alloc ?_ _)); exact BK108.out) hb)
                    have n2_ := Aside0.mk (blk_below (g := gb111) (o := .cells #[.string ((rd_T47 l0_0 x12_1).f0), .string ((rd_T47 l0_0 x12_1).f1)] 47 (0, 0)) (by (with_reducible repeat (first | refine blk_drewN ?_ _ | refine blk_drew ?_ | refine blk_alloc ?_ _)); exact BK111.out) hb)
                    have n3_ := Aside0.mk (below_step (by repeat (first | (with_reducible first | exact HB.out | apply below_alloc | apply pw_below_drewN | apply below_drew1 | refine below_set ?_ GE108.out | refine below_set ?_ GE111.out) | exact HB.out)) hb)
                    clear HO_3
                    clear BK108
                    clear BK111
                    clear HB
                    have HO_3 := n0_
                    have BK108 := n1_
                    have BK111 := n2_
                    have HB := n3_
                    clear n0_ n1_ n2_ n3_
                    (try clear hb)
                    (try clear hb2)
                    (try clear hk)
                    (try clear hi)
                    refine hK.out _ _ ⟨(blk_cell BK111.out 0).trans rfl, (blk_cell BK111.out 1).trans rfl⟩ (fun hHeld => ?_)
                    clear hK K
                    refine norm_ (a' := ?_) ?_ ?_
                    rotate_left
                    · show Act.put _ (some 23) _ = _
                      simp only [Act.put, List.setIfInBounds_toArray, List.set_cons_zero, List.set_cons_succ, i64_w, i32_w]
                      rfl
                    refine pure_ (i := 8) (N := some 24) (v := ?_) (a' := ?_) #[true, true, true, true, true, true, true, true, true, false, false, false] rfl rfl (any_of HT_.out (by kernel_rfl)) (fun _ _ _ h => h) (Or.inl ⟨by rfl, ?_⟩) ?_ ?_
                    rotate_left
                    · intro w'
                      go_simp
                      (first | with_reducible rfl | (rw [if_neg (by first | omega | (simp only [ByteArray.size_append] at *; omega) | (have hl_ : ∀ l_ : List UInt8, (⟨l_.toArray⟩ : ByteArray).size = l_.length := (fun l_ => by show l_.toArray.size = _; simp); simp only [ByteArray.size_append, hl_, List.length_cons, List.length_nil] at *; omega))]))
                    rotate_left
                    · simp only [Act.put, List.setIfInBounds_toArray, List.set_cons_zero, List.set_cons_succ, i64_w, i32_w]
                      rfl
                    refine one_ (i := 9) (N := some 25) #[true, true, true, true, true, true, true, true, true, true, false, false] rfl rfl (one_of HT_.out (by kernel_rfl)) (by decide) (fun K hK => ?_)
                    refine value_ (w1 := ?_) (v := ?_) (by rfl) rfl ?_ ?_
                    rotate_left 2
                    · go_simp
                      constructor
                      · rfl
                      · rfl
                    refine hK.out _ _ ⟨(blk_cell (blk_alloc BK111.out _) 0).trans rfl, (blk_cell (blk_alloc BK111.out _) 1).trans rfl⟩ (fun hHeld => ?_)
                    clear hK K
                    refine norm_ (a' := ?_) ?_ ?_
                    rotate_left
                    · show Act.put _ (some 25) _ = _
                      simp only [Act.put, List.setIfInBounds_toArray, List.set_cons_zero, List.set_cons_succ, i64_w, i32_w]
                      rfl
                    refine one_ (i := 10) (N := some 26) #[true, true, true, true, true, true, true, true, true, true, true, false] rfl rfl (one_of HT_.out (by kernel_rfl)) (by decide) (fun K hK => ?_)
                    refine Kd.R_append_step Kd.string (w0 := w) w.heap.size (by rfl) (.tmp 16) (.tmp 25) 48 9 (.string ⟨#[]⟩) 16 rfl Tryd.underlying48 info9 rfl (by decide) (by omega) u3 x3_1 ((t112 ++ (⟨#[61]⟩ : ByteArray)) ++ t113) [.string ((t112 ++ (⟨#[61]⟩ : ByteArray)) ++ t113)] (fun _ => True) (fun _ => False) rfl rfl ?aP (fun _ hk => hk.elim) ?aF ?aO ?aB ?aS ?aL ?_
                    (case aP => exact rfl)
                    (case aB => exact (by repeat (first | (with_reducible first | exact HB.out | apply below_alloc | apply pw_below_drewN | apply below_drew1 | refine below_set ?_ GE108.out | refine below_set ?_ GE111.out) | exact HB.out)))
                    (case aF => exact (fun _ _ => trivial))
                    (case aO => exact (by (with_reducible repeat (first | apply Kd.R_alloc | apply Kd.R_drewN | apply Kd.R_drew)); exact HO_3.out))
                    (case aS => exact (below_size (by repeat (first | (with_reducible first | exact HB.out | apply below_alloc | apply pw_below_drewN | apply below_drew1 | refine below_set ?_ GE108.out | refine below_set ?_ GE111.out) | exact HB.out))))
                    (case aL => have := LMc15.out; omega)
                    intro v115 w23 ho hb hg hat
                    rw [← Ny114.out] at ho
                    have n0_ := Aside0.mk (blk_grown (g := gb108) (o := .cells #[.slice (some ad110) l0_0.length c0_0] 24 (0, 0)) (by (with_reducible repeat (first | refine blk_drewN ?_ _ | refine blk_drew ?_ | refine blk_alloc ?_ _)); exact BK108.out) hg (Kd.R_ne HO_3.out BK108.out (by decide)))
                    have n1_ := Aside0.mk (blk_grown (g := gb111) (o := .cells #[.string ((rd_T47 l0_0 x12_1).f0), .string ((rd_T47 l0_0 x12_1).f1)] 47 (0, 0)) (by (with_reducible repeat (first | refine blk_drewN ?_ _ | refine blk_drew ?_ | refine blk_alloc ?_ _)); exact BK111.out) hg (Kd.R_ne HO_3.out BK111.out (by decide)))
                    have n2_ := Aside0.mk (hb)
                    have n3_ := Aside0.mk (ho)
                    clear BK108
                    clear BK111
                    clear HB
                    clear HO_3
                    have BK108 := n0_
                    have BK111 := n1_
                    have HB := n2_
                    have HO116 := n3_
                    clear n0_ n1_ n2_ n3_
                    clear ho hb hg hat
                    refine hK.out _ _ ⟨(blk_cell BK111.out 0).trans rfl, (blk_cell BK111.out 1).trans rfl⟩ (fun hHeld => ?_)
                    clear hK K
                    refine norm_ (a' := ?_) ?_ ?_
                    rotate_left
                    · show Act.put _ (some 26) _ = _
                      simp only [Act.put, List.setIfInBounds_toArray, List.set_cons_zero, List.set_cons_succ, i64_w, i32_w]
                      rfl
                    refine pure_ (i := 11) (N := some 3) (v := ?_) (a' := ?_) #[true, true, true, true, true, true, true, true, true, true, true, true] rfl rfl (any_of HT_.out (by kernel_rfl)) (fun _ _ _ h => h) (Or.inl ⟨by rfl, ?_⟩) ?_ ?_
                    rotate_left
                    · intro w'
                      go_simp
                      (first | with_reducible rfl | (rw [if_neg (by first | omega | (simp only [ByteArray.size_append] at *; omega) | (have hl_ : ∀ l_ : List UInt8, (⟨l_.toArray⟩ : ByteArray).size = l_.length := (fun l_ => by show l_.toArray.size = _; simp); simp only [ByteArray.size_append, hl_, List.length_cons, List.length_nil] at *; omega))]))
                    rotate_left
                    · simp only [Act.put, List.setIfInBounds_toArray, List.set_cons_zero, List.set_cons_succ, i64_w, i32_w]
                      rfl
                    refine done_ (done_of HT_.out (by kernel_rfl)) ?_
                    try go_wp2
                    go_roundg k1
                    case measure => have := HK1.out; omega
                    case rel => exact ⟨(y114), (wrap64 (x12_1 + 1)), (by first | rfl | (simp; done) | (simp [*]; done)), H', ⟨by have := HK1.out; omega⟩, ⟨by (with_reducible repeat (first | apply Kd.R_alloc | apply Kd.R_drewN | apply Kd.R_drew)); exact HO116.out⟩, ⟨by (with_reducible repeat (first | refine blk_drewN ?_ _ | refine blk_drew ?_ | refine blk_alloc ?_ _)); exact BK108.out⟩, ⟨by repeat (first | (with_reducible first | exact HB.out | apply below_alloc | apply pw_below_drewN | apply below_drew1 | refine below_set ?_ GE108.out | refine below_set ?_ GE111.out) | exact HB.out)⟩⟩
                  · rw [if_neg c15] at H
                    exact absurd H (by simp)
                · rw [if_neg c14] at H
                  exact absurd H (by simp)
              · rw [if_neg c12] at H
                exact absurd H (by simp)
            · rw [if_neg c10] at H
              exact absurd H (by simp)
          · rw [if_neg c9] at H
            exact absurd H (by simp)
        · rw [if_neg c8] at H
          have c8b0 : decide (x12_1 < (l0_0.length : Int)) = false := decide_eq_false c8
          clear c8
          replace H := Option.bind_eq_some_iff.mp H
          obtain ⟨t117, A240, H⟩ := H
          replace H : (some t117) = some r := H
          have A24 := Aside0.mk A240
          clear A240
          obtain rfl := Option.some.inj H
          obtain ⟨Ao25, co25, eo25⟩ := Kd.R_slice HO_3.out
          subst eo25
          go_wp2_with (first | ((with_reducible refine gate_callee (f := 36) rfl ?_); refine goesL_ (some 29) rfl rfl Tryd.func36 (by kernel_rfl) rfl #[.slice Ao25 x3_1.length co25, .string (⟨#[44]⟩ : ByteArray)] rfl (by (try simp only [List.map_toArray, List.map_cons, List.map_nil]); first | done | rfl | (simp only [List.length_drop, List.length_take]; rfl)) ?_; (with_reducible refine (strings_Join.calls _ _ x3_1 (⟨#[44]⟩ : ByteArray) t117 _ ?side1 ?side2 A24.out).mono ?_); (case side1 => repeat (first | exact (Kd.R_reads' HO_3.out).2.2 | (with_reducible refine Kd.C_alloc ?_ _) | (with_reducible refine Kd.C_drewN ?_ _) | (with_reducible refine Kd.C_drew ?_))); (case side2 => exact (Kd.R_reads' HO_3.out).2.1); rintro e w26 ⟨rfl, hb⟩; refine ⟨_, rfl, ?_⟩; have n0_ := Aside0.mk (Kd.R_below (by (with_reducible repeat (first | apply Kd.R_alloc | apply Kd.R_drewN | apply Kd.R_drew)); exact HO_3.out) hb); have n1_ := Aside0.mk (blk_below (g := gb108) (o := .cells #[.slice A0_0 l0_0.length c0_0] 24 (0, 0)) (by (with_reducible repeat (first | refine blk_drewN ?_ _ | refine blk_drew ?_ | refine blk_alloc ?_ _)); exact BK108.out) hb); have n2_ := Aside0.mk (below_step (by repeat (first | (with_reducible first | exact HB.out | apply below_alloc | apply pw_below_drewN | apply below_drew1 | refine below_set ?_ GE108.out) | exact HB.out)) hb); clear HO_3; clear BK108; clear HB; have HO_3 := n0_; have BK108 := n1_; have HB := n2_; clear n0_ n1_ n2_; (try clear hb); (try clear hb2); (try clear hk); (try clear hi)))
          go_ret
          exact ⟨by first | rfl | (simp [errW_none, errW_some] <;> rfl) | (simp [*, errW_none, errW_some] <;> rfl), by repeat (first | (with_reducible first | exact HB.out | apply below_alloc | apply pw_below_drewN | apply below_drew1 | refine below_set ?_ GE108.out) | exact HB.out)⟩
  · rw [if_neg c3] at H
    have c3b0 : (t109 == 0) = false := beq_eq_false_iff_ne.mpr c3
    have c3b1 : (t109 != 0) = true := bne_iff_ne.mpr c3
    obtain rfl := Option.some.inj H
    go_enter Tryd.func14, Tryd.ntmps14
    go_wp2_with (first | ((with_reducible refine gate_dst (N := 1) rfl ?_); refine box_event ?hg (N := 1) ?hd (cs := #[.slice A0_0 l0_0.length c0_0]) (t := 24) ?hr ?_; (case hd => rfl); (case hg => rfl); (case hr => first | (go_simp; done) | (go_simp; rfl)); intro gb108 hg w27 hbox hb; have n0_ := Aside0.mk (below_step (by repeat (first | (with_reducible first | exact HB.out | apply below_alloc | apply pw_below_drewN | apply below_drew1) | exact HB.out)) hb); have n1_ := Aside0.mk (hbox); have n2_ := Aside0.mk ((by rw [hg]; exact (below_size (by repeat (first | (with_reducible first | exact HB.out | apply below_alloc | apply pw_below_drewN | apply below_drew1) | exact HB.out))) : w.heap.size ≤ gb108)); have n3_ := Aside0.mk ((by rw [hg]; exact (below_size (by repeat (first | (with_reducible first | exact HB.out | apply below_alloc | apply pw_below_drewN | apply below_drew1) | exact HB.out))) : w.heap.size ≤ gb108)); clear HB; have HB := n0_; have BK108 := n1_; have GW108 := n2_; have GE108 := n3_; clear n0_ n1_ n2_ n3_; clear hb hbox hg; have hcz28_0 : w27.cell? ⟨gb108, 0, none⟩ = some (.slice A0_0 l0_0.length c0_0) := (blk_cell BK108.out 0).trans rfl; have hfz28_0 := blk_frozen BK108.out 0) | ((with_reducible refine gate_callee (f := 15) rfl ?_); refine goesL_ (some 7) rfl rfl Tryd.func15 (by kernel_rfl) rfl #[.agg #[.slice A0_0 l0_0.length c0_0]] rfl (by (try simp only [List.map_toArray, List.map_cons, List.map_nil]); first | done | rfl | (simp only [List.length_drop, List.length_take]; rfl)) ?_; (with_reducible refine (desc_Check.calls k _ _ l0_0 t109 _ ?side1 ?side2 A2.out).mono ?_); (case side1 => repeat (first | exact (Kd.C_below HR0_0.out HB.out) | (with_reducible refine Kd.C_alloc ?_ _) | (with_reducible refine Kd.C_drewN ?_ _) | (with_reducible refine Kd.C_drew ?_))); (case side2 => exact HC0_0.out); rintro e w29 ⟨rfl, hb⟩; refine ⟨_, rfl, ?_⟩; have n0_ := Aside0.mk (blk_below (g := gb108) (o := .cells #[.slice A0_0 l0_0.length c0_0] 24 (0, 0)) (by (with_reducible repeat (first | refine blk_drewN ?_ _ | refine blk_drew ?_ | refine blk_alloc ?_ _)); exact BK108.out) hb); have n1_ := Aside0.mk (below_step (by repeat (first | (with_reducible first | exact HB.out | apply below_alloc | apply pw_below_drewN | apply below_drew1 | refine below_set ?_ GE108.out) | exact HB.out)) hb); clear BK108; clear HB; have BK108 := n0_; have HB := n1_; clear n0_ n1_; (try clear hb); (try clear hb2); (try clear hk); (try clear hi)))
    go_ret
    exact ⟨by first | rfl | (simp [errW_none, errW_some] <;> rfl) | (simp [*, errW_none, errW_some] <;> rfl), by repeat (first | (with_reducible first | exact HB.out | apply below_alloc | apply pw_below_drewN | apply below_drew1 | refine below_set ?_ GE108.out) | exact HB.out)⟩

/-! ### strings_Split: function 37 (my own) -/
def strings_Split.f (a0 : ByteArray) (a1 : ByteArray) : Option (List ByteArray) := if a1.size = 1 ∧ a0.size < 4294967281 then some (Lib.splitB a1 0 (Lib.countB a0 a1) a0) else none
set_option maxRecDepth 100000 in
theorem strings_Split.gen (s : ByteArray) (c : UInt8) (hs : s.size < 4294967281) (w : World) :
    Calls Tryd.prog 66 #[.string s, .string ⟨#[c]⟩, .int .i64 0, .int .i64 (-1)] w fun e w' =>
      e = .returned (.slice (some ⟨w.heap.size, 0, none⟩) (Lib.countB s ⟨#[c]⟩ + 1) (Lib.countB s ⟨#[c]⟩ + 1)) ∧ w' = w.alloc (.cells ((Lib.splitB ⟨#[c]⟩ 0 (Lib.countB s ⟨#[c]⟩) s).map Value.string).toArray 9) := by
  have h1 : 1 ≤ (⟨#[c]⟩ : ByteArray).size := Nat.le_refl _
  have hle := Lib.countB_le ⟨#[c]⟩ h1 s.size s (Nat.le_refl _)
  have hlen := Lib.splitB_all ⟨#[c]⟩ h1 0 _ s rfl
  have cc := Any.strings_genSplit_core Tryd.lays221 (by kernel_rfl) s ⟨#[c]⟩ 0 (-1) (Lib.countB s ⟨#[c]⟩ + 1) w hs h1 (Nat.zero_le _)
    (fun x cs hx => (Tryd.strings_Index_one x c _).mono (by rintro e w' ⟨rfl, rfl⟩; exact ⟨by rw [show Lib.indexB x ⟨#[c]⟩ = Lib.indexByte x.data.toList c from Lib.index_one _ _], rfl⟩))
    ((Tryd.strings_Count_one s c w).mono (by rintro e w' ⟨rfl, rfl⟩; exact ⟨by rw [show Lib.countB s ⟨#[c]⟩ = List.count c s.data.toList from Lib.count_one _ _]; rfl, rfl⟩))
    (by decide) (by decide) (by rw [if_pos (by decide)]; omega)
  rw [Nat.add_sub_cancel, hlen] at cc
  have e2 : Lib.cellsOf (Lib.splitB ⟨#[c]⟩ 0 (Lib.countB s ⟨#[c]⟩) s) (Lib.countB s ⟨#[c]⟩ + 1) = ((Lib.splitB ⟨#[c]⟩ 0 (Lib.countB s ⟨#[c]⟩) s).map Value.string).toArray := by
    have := Lib.cellsOf_full (Lib.splitB ⟨#[c]⟩ 0 (Lib.countB s ⟨#[c]⟩) s)
    rw [hlen] at this
    exact this
  rw [e2] at cc
  exact cc
theorem strings_Split.own (l : List ByteArray) (w : World) (hm : l.length ≤ 9223372036854775807) (h0 : l ≠ []) :
    Kd.R Kd.string 9 (w.alloc (.cells (l.map Value.string).toArray 9)) w.heap.size (fun _ => True) (.slice (some ⟨w.heap.size, 0, none⟩) l.length l.length) l := by
  refine ⟨fun _ _ => trivial, l.map Value.string, ⟨?_, .inr ⟨w.heap.size, l.length, _, rfl, Nat.le_refl _, heap_alloc_new w _, Nat.le_refl _, hm, ?_, ?_⟩⟩, ?_, ?_⟩
  · show (l.map Value.string).length = l.length * 1; simp
  · show (l.map Value.string).toArray.size = l.length * 1; simp
  · show List.take (l.length * 1) (l.map Value.string).toArray.toList = _
    rw [Nat.mul_one]
    exact List.take_of_length_le (by simp)
  · show (l.map Value.string).length = l.length * 1; simp
  · intro j p hj
    show ((l.map Value.string).drop (j * 1)).take 1 = [Value.string p]
    have hlt : j < l.length := (List.getElem?_eq_some_iff.1 hj).1
    rw [Nat.mul_one, List.drop_eq_getElem_cons (by simpa using hlt)]
    simp only [List.take_succ_cons, List.take_zero, List.getElem_map]
    rw [(List.getElem?_eq_some_iff.1 hj).2]
set_option maxRecDepth 100000 in
theorem strings_Split.calls (a0 : ByteArray) (a1 : ByteArray) (r : List ByteArray) (w : World) (h : strings_Split.f a0 a1 = some r) :
    Calls Tryd.prog 37 #[.string a0, .string a1] w fun e w' => ∃ v0_ : Value, e = .returned (v0_) ∧ Kd.R Kd.string 9 w' w.heap.size (fun _ => True) v0_ r ∧ Below w.heap.size w w' := by
  unfold strings_Split.f at h
  split at h
  · rename_i hb
    obtain ⟨c, rfl⟩ := Lib.one_byte a1 hb.1
    obtain rfl := Option.some.inj h
    have hs := hb.2
    clear h hb
    have hlen := Lib.splitB_all ⟨#[c]⟩ (Nat.le_refl _) 0 _ a0 rfl
    have hle := Lib.countB_le ⟨#[c]⟩ (Nat.le_refl _) a0.size a0 (Nat.le_refl _)
    have HO := Aside0.mk (strings_Split.own (Lib.splitB ⟨#[c]⟩ 0 (Lib.countB a0 ⟨#[c]⟩) a0) w (by omega) (fun e => by rw [e] at hlen; simp at hlen))
    have HL := Aside0.mk hlen
    clear hlen hle
    go_enter Tryd.func37, Tryd.ntmps37
    go_wp2_with fail
    refine (strings_Split.gen a0 c hs _).mono ?_; rintro e w' ⟨rfl, hw⟩; rw [hw]; clear hw
    go_wp2
    go_ret
    refine ⟨_, rfl, ?_, (Below.refl _ _).alloc (Nat.le_refl _) _⟩
    have := HO.out
    rw [HL.out] at this
    exact this
  · cases h

/-! ### strings_Cut: function 38 (my own) -/
def strings_Cut.f (a0 : ByteArray) (a1 : ByteArray) : Option (ByteArray × ByteArray × Bool) := if a1.size = 1 ∧ a0.size ≤ 9000000000000000000 then some (⟨(Lib.cut a0.data.toList a1.data.toList).1.toArray⟩, ⟨(Lib.cut a0.data.toList a1.data.toList).2.1.toArray⟩, (Lib.cut a0.data.toList a1.data.toList).2.2) else none
set_option maxRecDepth 100000 in
theorem strings_Cut.lite (s : ByteArray) (c : UInt8) (hs : s.size ≤ 9000000000000000000) (w : World) :
    Calls Tryd.prog 67 #[.string s, .string ⟨#[c]⟩] w fun e w' => e = .returned (.tuple #[.string ⟨(Lib.cut s.data.toList [c]).1.toArray⟩, .string ⟨(Lib.cut s.data.toList [c]).2.1.toArray⟩, .bool (Lib.cut s.data.toList [c]).2.2]) ∧ Drawn0 w w' := by
  have hz : (⟨#[c]⟩ : ByteArray).size = 1 := rfl
  have hone : Lib.indexB s ⟨#[c]⟩ = Lib.indexByte s.data.toList c := Lib.index_one _ _
  rcases Lib.indexB_cases s ⟨#[c]⟩ with hix | ⟨i, hix, hroom⟩
  · obtain ⟨e1, e2, e3⟩ := Lib.cutB_miss s ⟨#[c]⟩ hix
    have g1 : (Lib.cut s.data.toList [c]).1.toArray = s.data := congrArg ByteArray.data e1
    have g2 : (⟨(Lib.cut s.data.toList [c]).2.1.toArray⟩ : ByteArray) = ⟨#[]⟩ := e2
    have g3 : (Lib.cut s.data.toList [c]).2.2 = false := e3
    have H1 := Aside0.mk e1
    have H2 := Aside0.mk g2
    have H3 := Aside0.mk g3
    have HI := Aside0.mk (hone.symm.trans hix)
    clear e1 e2 e3 g1 g2 g3 hone hix
    go_enter Tryd.func67, Tryd.ntmps67
    go_wp2_with fail
    refine (Tryd.stringslite_Index_one s c _).mono ?_; rintro e w' ⟨rfl, rfl⟩
    rw [HI.out]
    go_wp2
    go_ret3
    exact ⟨by rw [H3.out, H2.out]; rw [show (⟨(Lib.cut s.data.toList [c]).1.toArray⟩ : ByteArray) = s from H1.out]; rfl, Drawn0.refl _⟩
  · obtain ⟨e1, e2, e3⟩ := Lib.cutB_hit s ⟨#[c]⟩ i hix
    have c1 : (0 : Int) ≤ ↑i := by omega
    have c2 : (↑i : Int) ≤ ↑s.size := by omega
    have c3 : (0 : Int) ≤ ↑i + 1 := by omega
    have c4 : (↑i + 1 : Int) ≤ ↑s.size := by omega
    have c5 : i ≤ s.size := by omega
    have c6 : i + 1 ≤ s.size := by omega
    have H1 := Aside0.mk e1
    have H2 := Aside0.mk e2
    have H3 := Aside0.mk e3
    have HI := Aside0.mk (hone.symm.trans hix)
    clear e1 e2 e3 hone hix
    go_enter Tryd.func67, Tryd.ntmps67
    go_wp2_with fail
    refine (Tryd.stringslite_Index_one s c _).mono ?_; rintro e w' ⟨rfl, rfl⟩
    rw [HI.out]
    go_wp2
    go_quiet (fail)
    go_wp2
    go_ret3
    exact ⟨by rw [H1.out, H2.out, H3.out]; rfl, Drawn0.step (Drawn0.refl _) _⟩
theorem strings_Cut.calls (a0 : ByteArray) (a1 : ByteArray) (r1 : ByteArray) (r2 : ByteArray) (r3 : Bool) (w : World) (h : strings_Cut.f a0 a1 = some (r1, r2, r3)) :
    Calls Tryd.prog 38 #[.string a0, .string a1] w fun e w' => e = .returned (.tuple #[.string r1, .string r2, .bool r3]) ∧ Drawn0 w w' := by
  unfold strings_Cut.f at h
  split at h
  · rename_i hb
    obtain ⟨c, rfl⟩ := Lib.one_byte a1 hb.1
    have h2 := Option.some.inj h
    obtain rfl := (Prod.mk.inj h2).1
    obtain rfl := (Prod.mk.inj (Prod.mk.inj h2).2).1
    obtain rfl := (Prod.mk.inj (Prod.mk.inj h2).2).2
    clear h h2
    have hs := hb.2
    clear hb
    go_enter Tryd.func38, Tryd.ntmps38
    go_wp2_with fail
    (with_reducible refine (strings_Cut.lite a0 c hs _).mono ?_); rintro e w' ⟨rfl, ⟨nd, rfl⟩⟩
    go_wp2
    go_ret3
    exact ⟨rfl, by repeat (first | exact Drawn0.refl _ | apply Drawn0.step)⟩
  · cases h

/-! ### desc_plainly: function 39 (my own) -/
def desc_plainly.hx (c : UInt8) : Int := Lib.indexByte desc_Escape.HEX c
theorem desc_plainly.hx_rng : ∀ c : UInt8, -1 ≤ desc_plainly.hx c ∧ desc_plainly.hx c ≤ 15 := by
  intro c
  have h : ∀ n : Fin 256, -1 ≤ desc_plainly.hx (UInt8.ofNat n.val) ∧ desc_plainly.hx (UInt8.ofNat n.val) ≤ 15 := by decide +kernel
  have := h ⟨c.toNat, c.toNat_lt⟩
  simpa using this
def desc_plainly.val (a b : UInt8) : UInt8 := UInt8.ofNat (((max (desc_plainly.hx a) 0).toNat * 16) ||| (max (desc_plainly.hx b) 0).toNat)
theorem desc_plainly.join0 : ∀ n m : Fin 16, IntKind.u8.wrap (Go.bits .or .i64 (IntKind.i64.wrap ((n.val : Int) * 16)) (m.val : Int)) = ((UInt8.ofNat ((n.val * 16) ||| m.val)).toNat : Int) := by decide +kernel
theorem desc_plainly.join (x1 x2 : Int) (h1 : -1 ≤ x1 ∧ x1 ≤ 15) (h2 : -1 ≤ x2 ∧ x2 ≤ 15) :
    IntKind.u8.wrap (Go.bits .or .i64 (IntKind.i64.wrap ((if x1 < 0 then 0 else x1) * 16)) (if x2 < 0 then 0 else x2)) = ((UInt8.ofNat (((max x1 0).toNat * 16) ||| (max x2 0).toNat)).toNat : Int) := by
  have e1 : (if x1 < 0 then 0 else x1) = (((max x1 0).toNat : Nat) : Int) := by split <;> omega
  have e2 : (if x2 < 0 then 0 else x2) = (((max x2 0).toNat : Nat) : Int) := by split <;> omega
  rw [e1, e2]
  exact desc_plainly.join0 ⟨(max x1 0).toNat, by omega⟩ ⟨(max x2 0).toNat, by omega⟩
def desc_plainly.all (l : List UInt8) : List UInt8 :=
  match l with
  | [] => []
  | c :: t => if c = 37 ∧ 2 ≤ t.length then desc_plainly.val (t.getD 0 0) (t.getD 1 0) :: desc_plainly.all (t.drop 2) else c :: desc_plainly.all t
termination_by l.length
decreasing_by all_goals (simp; try omega)
theorem desc_plainly.all_nil : desc_plainly.all [] = [] := by rw [desc_plainly.all]
theorem desc_plainly.all_plain (c : UInt8) (t : List UInt8) (h : ¬ (c = 37 ∧ 2 ≤ t.length)) : desc_plainly.all (c :: t) = c :: desc_plainly.all t := by rw [desc_plainly.all, if_neg h]
theorem desc_plainly.all_esc (a b : UInt8) (t : List UInt8) : desc_plainly.all (37 :: a :: b :: t) = desc_plainly.val a b :: desc_plainly.all t := by rw [desc_plainly.all, if_pos (by simp)]; rfl
theorem desc_plainly.drop_cons (s : ByteArray) (k : Nat) (h : k < s.size) : s.data.toList.drop k = s[k] :: s.data.toList.drop (k + 1) := by
  rw [List.drop_eq_getElem_cons (by simpa using h)]; rfl
def desc_plainly.f (a0 : ByteArray) : Option (ByteArray) := if a0.size ≤ 1099511627776 then some ⟨(desc_plainly.all a0.data.toList).toArray⟩ else none
set_option maxHeartbeats 1000000 in
set_option maxRecDepth 100000 in
theorem desc_plainly.calls (s : ByteArray) (r : ByteArray) (w : World) (h : desc_plainly.f s = some r) :
    Calls Tryd.prog 39 #[.string s] w fun e w' => e = .returned (.string r) ∧ Below w.heap.size w w' := by
  unfold desc_plainly.f at h
  split at h
  · rename_i hs
    obtain rfl := Option.some.inj h
    clear h
    have hb0 := Aside0.mk (Lib.fresh_isBuilder 60 5 w)
    go_enter Tryd.func39, Tryd.ntmps39
    go_wp2
    go_loopw [4] (fun v4 wr => ∃ (k : Nat) (acc : List UInt8), v4 = .int .i64 k ∧ k ≤ s.size ∧ acc.length ≤ k ∧ Aside0 (acc ++ desc_plainly.all (s.data.toList.drop k) = desc_plainly.all s.data.toList) ∧ Aside0 (Lib.IsBuilder 60 5 w.heap.size w.heap.size (Lib.byteCells acc) wr) ∧ Aside0 (Below w.heap.size w wr)) (fun v4 _ => s.size - (intOf v4).toNat)
    case atStart => exact ⟨0, [], rfl, Nat.zero_le _, Nat.le_refl _, ⟨rfl⟩, hb0, ⟨(Below.refl _ _).alloc (Nat.le_refl _) _⟩⟩
    case round =>
      obtain ⟨k, acc, rfl, hk, ha, HA, HB, HW⟩ := hrel
      clear hb0
      have hacc := Aside0.mk (show (Lib.byteCells acc).length ≤ 1099511627776 from by unfold Lib.byteCells; rw [List.length_map]; omega)
      by_cases hlt : k < s.size
      · have HD := Aside0.mk (desc_plainly.drop_cons s k hlt)
        by_cases hp : s[k] = 37 ∧ k + 2 < s.size
        · have HP := Aside0.mk hp.1
          have d1 : ((s[k].toNat : Int) != 37) = false := by rw [hp.1]; rfl
          have d1' : ((s[k].toNat : Int) == 37) = true := by rw [hp.1]; rfl
          have hk2 : k + 2 < s.size := hp.2
          have d2 : decide ((s.size : Int) ≤ (k : Int) + 2) = false := decide_eq_false (by omega)
          clear hp
          have i1 : (0 : Int) ≤ (k : Int) + 1 := by omega
          have i2 : (k : Int) + 1 < (s.size : Int) := by omega
          have i3 : (0 : Int) ≤ (k : Int) + 2 := by omega
          have i4 : (k : Int) + 2 < (s.size : Int) := by omega
          have j1 : IntKind.i64.wrap ((k : Int) + 1) = (k : Int) + 1 := by rw [IntKind.wrap_i64]; omega
          have j2 : IntKind.i64.wrap ((k : Int) + 2) = (k : Int) + 2 := by rw [IntKind.wrap_i64]; omega
          have j3 : ((k : Int) + 1).toNat = k + 1 := by omega
          have j4 : ((k : Int) + 2).toNat = k + 2 := by omega
          have j5 : k + 1 < s.size := by omega
          have C1 : ∀ W : World, Calls Tryd.prog 49 #[.string ⟨#[48, 49, 50, 51, 52, 53, 54, 55, 56, 57, 65, 66, 67, 68, 69, 70]⟩, .int .u8 (s[k + 1].toNat : Int)] W fun e w'' => e = .returned (.int .i64 (desc_plainly.hx s[k + 1])) ∧ w'' = W := fun W => (Tryd.strings_IndexByte _ _ W).mono (by rintro e w' ⟨rfl, rfl⟩; exact ⟨by unfold desc_plainly.hx; rw [show ((s[k + 1].toNat : Int)).toNat.toUInt8 = s[k + 1] from by rw [Int.toNat_natCast]; exact UInt8.ofNat_toNat]; rfl, rfl⟩)
          have C2 : ∀ W : World, Calls Tryd.prog 49 #[.string ⟨#[48, 49, 50, 51, 52, 53, 54, 55, 56, 57, 65, 66, 67, 68, 69, 70]⟩, .int .u8 (s[k + 2].toNat : Int)] W fun e w'' => e = .returned (.int .i64 (desc_plainly.hx s[k + 2])) ∧ w'' = W := fun W => (Tryd.strings_IndexByte _ _ W).mono (by rintro e w' ⟨rfl, rfl⟩; exact ⟨by unfold desc_plainly.hx; rw [show ((s[k + 2].toNat : Int)).toNat.toUInt8 = s[k + 2] from by rw [Int.toNat_natCast]; exact UInt8.ofNat_toNat]; rfl, rfl⟩)
          have HC1 := Aside0.mk C1
          have HC2 := Aside0.mk C2
          have r1 := desc_plainly.hx_rng s[k + 1]
          have r2 := desc_plainly.hx_rng s[k + 2]
          have HV : Aside0 (desc_plainly.val s[k + 1] s[k + 2] = UInt8.ofNat (((max (desc_plainly.hx s[k + 1]) 0).toNat * 16) ||| (max (desc_plainly.hx s[k + 2]) 0).toNat)) := ⟨rfl⟩
          clear C1 C2
          generalize desc_plainly.hx s[k + 1] = x1 at *
          generalize desc_plainly.hx s[k + 2] = x2 at *
          go_wp2
          refine wp_region_still_tail 15 (by kernel_rfl) (by kernel_rfl) ?_
          simp only [List.take_succ_cons, List.take_zero, List.drop_succ_cons, List.drop_zero]
          repeat still_step
          still_call (HC1.out _)
          repeat still_step
          still_call (HC2.out _)
          repeat still_step
          refine wpStill_nil ?_
          change wpList _ _ _ _ _ (wr.drew)
          have HN := Aside0.mk (desc_plainly.join x1 x2 r1 r2)
          have HB3 := Aside0.mk (show Lib.IsBuilder 60 5 w.heap.size w.heap.size (Lib.byteCells acc) (wr.drew) from HB.out)
          have HW3 := Aside0.mk (show Below w.heap.size w (wr.drew) from ⟨HW.out.os, HW.out.tape, HW.out.output, HW.out.size, HW.out.block⟩)
          generalize wr.drew = wz at HB3 HW3
          rw [HN.out, ← HV.out]
          generalize (if x1 < 0 then (0 : Int) else x1) = y1
          generalize (if x2 < 0 then (0 : Int) else x2) = y2
          generalize Go.bits .or .i64 (IntKind.i64.wrap (y1 * 16)) y2 = y3
          generalize IntKind.i64.wrap (y1 * 16) = y4
          clear j1 j2 r1 r2 HB HW HC1 HC2 HN
          go_wp2_with fail
          refine (Tryd.bld_WriteByte w.heap.size w.heap.size _ _ _ HB3.out (by have := hacc.out; omega) HW3.out.size).mono ?_; rintro e w2 ⟨rfl, hb2, hw2⟩
          have HB2 := Aside0.mk hb2
          have HW2 := Aside0.mk (show Below w.heap.size w w2 from HW3.out.trans ⟨hw2.os, hw2.tape, hw2.output, hw2.size, fun i hi => hw2.block i hi⟩)
          clear hb2 hw2
          go_wp2
          go_roundw
          case rel =>
            refine ⟨k + 3, acc ++ [desc_plainly.val s[k + 1] s[k + 2]], by go_num, by omega, by simp; omega, ⟨?_⟩, ⟨?_⟩, HW2⟩
            · have e := HA.out
              rw [HD.out, desc_plainly.drop_cons s (k + 1) j5, desc_plainly.drop_cons s (k + 2) hk2, HP.out, desc_plainly.all_esc] at e
              rw [List.append_assoc]; exact e
            · rw [← desc_Escape.cells_one]; exact .inr HB2.out
          case measure => simp [intOf]; omega
        · have HQ : Aside0 (desc_plainly.all (s.data.toList.drop k) = s[k] :: desc_plainly.all (s.data.toList.drop (k + 1))) := ⟨by
            rw [HD.out, desc_plainly.all_plain]
            rintro ⟨h1, h2⟩
            rw [List.length_drop] at h2
            exact hp ⟨h1, by simp at h2; omega⟩⟩
          by_cases h37 : s[k] = 37
          · have d1 : ((s[k].toNat : Int) != 37) = false := by rw [h37]; rfl
            have d1' : ((s[k].toNat : Int) == 37) = true := by rw [h37]; rfl
            have d2 : decide ((s.size : Int) ≤ (k : Int) + 2) = true := decide_eq_true (by have : ¬ k + 2 < s.size := fun h => hp ⟨h37, h⟩; omega)
            clear hp h37
            go_wp2_with fail
            refine (Tryd.bld_WriteByte w.heap.size w.heap.size _ _ _ HB.out (by have := hacc.out; omega) HW.out.size).mono ?_; rintro e w2 ⟨rfl, hb2, hw2⟩
            have HB2 := Aside0.mk hb2
            have HW2 := Aside0.mk (show Below w.heap.size w w2 from HW.out.trans ⟨hw2.os, hw2.tape, hw2.output, hw2.size, fun i hi => hw2.block i hi⟩)
            clear hb2 hw2
            go_wp2
            go_roundw
            case rel =>
              refine ⟨k + 1, acc ++ [s[k]], by go_num, by omega, by simp; omega, ⟨?_⟩, ⟨?_⟩, HW2⟩
              · have e := HA.out
                rw [HQ.out] at e
                rw [List.append_assoc]; exact e
              · rw [← desc_Escape.cells_one]; exact .inr HB2.out
            case measure => simp [intOf]; omega
          · have hne : (s[k].toNat : Int) ≠ 37 := fun h => h37 (by apply UInt8.toNat_inj.1; have e3 : (37 : UInt8).toNat = 37 := rfl; omega)
            have d1 : ((s[k].toNat : Int) != 37) = true := bne_iff_ne.2 hne
            have d1' : ((s[k].toNat : Int) == 37) = false := beq_eq_false_iff_ne.2 hne
            clear hp h37 hne
            go_wp2_with fail
            refine (Tryd.bld_WriteByte w.heap.size w.heap.size _ _ _ HB.out (by have := hacc.out; omega) HW.out.size).mono ?_; rintro e w2 ⟨rfl, hb2, hw2⟩
            have HB2 := Aside0.mk hb2
            have HW2 := Aside0.mk (show Below w.heap.size w w2 from HW.out.trans ⟨hw2.os, hw2.tape, hw2.output, hw2.size, fun i hi => hw2.block i hi⟩)
            clear hb2 hw2
            go_wp2
            go_roundw
            case rel =>
              refine ⟨k + 1, acc ++ [s[k]], by go_num, by omega, by simp; omega, ⟨?_⟩, ⟨?_⟩, HW2⟩
              · have e := HA.out
                rw [HQ.out] at e
                rw [List.append_assoc]; exact e
              · rw [← desc_Escape.cells_one]; exact .inr HB2.out
            case measure => simp [intOf]; omega
      · have e : s.data.toList.drop k = [] := List.drop_eq_nil_of_le (by simp; omega)
        have HE := Aside0.mk (show acc = desc_plainly.all s.data.toList from by have := HA.out; rw [e, desc_plainly.all_nil, List.append_nil] at this; exact this)
        clear e
        go_wp2_with fail
        refine (Tryd.bld_String w.heap.size w.heap.size _ _ HB.out HW.out.size).mono ?_; rintro e w2 ⟨rfl, hw2⟩
        have HW2 := Aside0.mk (show Below w.heap.size w w2 from HW.out.trans ⟨hw2.os, hw2.tape, hw2.output, hw2.size, fun i hi => hw2.block i hi⟩)
        clear hw2
        go_wp2
        go_ret
        exact ⟨by rw [← HE.out]; rfl, HW2.out⟩
  · cases h

end Go.Proofs.YtpemmaffbcbcjaaDoor.PDescApart
