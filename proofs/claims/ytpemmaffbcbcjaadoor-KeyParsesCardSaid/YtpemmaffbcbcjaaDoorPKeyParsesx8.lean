-- WRITTEN BY THIS SESSION'S mprint.py upon the print: some functions are proved by hand
import Derived.Test.YtpemmaffbcbcjaaDoorPKeyParsesx0
import Derived.Test.YtpemmaffbcbcjaaDoorPKeyParsesx7
namespace Go.Proofs.YtpemmaffbcbcjaaDoor.PKeyParses
open Go.RowKit Go.Proofs.YtpemmaffbcbcjaaDoorW.PrintWords Go.Proofs.YtpemmaffbcbcjaaDoorW.PrintLast Go.Proofs.YtpemmaffbcbcjaaDoorW.PrintMore
attribute [local go_sem] max2_int min2_int max_two min_two max_three min_three max_four min_four   -- for this text's walks alone
set_option linter.unusedVariables false
set_option linter.unusedSimpArgs false

/-! ### turncockref1_plain: function 41 -/
mutual
def turncockref1_plain.l0 : Nat → ByteArray → List Int → Int → Option (ByteArray × Bool)
  | 0, _, _, _ => none
  | k + 1, x0, x4, x5 => if x5 < (x0.size : Int) then (if 0 ≤ x5 then (if (bt x0 x5) = 37 then (if (wrap64 (x5 + 2)) ≥ (x0.size : Int) then (turncockref1_plain.j1 k x0 x4 x5 true) else (if 0 ≤ (wrap64 (x5 + 1)) then (if (wrap64 (x5 + 1)) < (x0.size : Int) then ((turncockref1_hex.f (bt x0 (wrap64 (x5 + 1)))).bind fun t251 => (if t251 < 0 then (turncockref1_plain.j1 k x0 x4 x5 true) else (if 0 ≤ (wrap64 (x5 + 2)) then (if (wrap64 (x5 + 2)) < (x0.size : Int) then ((turncockref1_hex.f (bt x0 (wrap64 (x5 + 2)))).bind fun t252 => (turncockref1_plain.j1 k x0 x4 x5 (decide (t252 < 0)))) else (none)) else (none)))) else (none)) else (none))) else (if x4.length < 140737488355328 then (turncockref1_plain.l0 k x0 (x4 ++ [bt x0 x5]) (wrap64 (x5 + 1))) else (none))) else (none)) else (some (strOfNums x4, true))
def turncockref1_plain.j1 : Nat → ByteArray → List Int → Int → Bool → Option (ByteArray × Bool)
  | 0, _, _, _, _ => none
  | k + 1, x0, x4, x5, x42 => if x42 = true then (some ((⟨#[]⟩ : ByteArray), false)) else (if 0 ≤ (wrap64 (x5 + 1)) then (if (wrap64 (x5 + 1)) < (x0.size : Int) then ((turncockref1_hex.f (bt x0 (wrap64 (x5 + 1)))).bind fun t253 => (if 0 ≤ (wrap64 (x5 + 2)) then (if (wrap64 (x5 + 2)) < (x0.size : Int) then ((turncockref1_hex.f (bt x0 (wrap64 (x5 + 2)))).bind fun t254 => (if x4.length < 140737488355328 then (turncockref1_plain.l0 k x0 (x4 ++ [(wrap64 ((wrap64 (16 * t253)) + t254)) % 256]) (wrap64 ((wrap64 (x5 + 2)) + 1))) else (none))) else (none)) else (none))) else (none)) else (none))
end
def turncockref1_plain.f (k : Nat) (a0 : ByteArray) : Option (ByteArray × Bool) := turncockref1_plain.l0 k a0 ([] : List Int) 0
theorem turncockref1_plain.mono_l : ∀ k, (∀ y0 y1 y2, LeO (turncockref1_plain.l0 k y0 y1 y2) (turncockref1_plain.l0 (k + 1) y0 y1 y2)) ∧ (∀ y0 y1 y2 y3, LeO (turncockref1_plain.j1 k y0 y1 y2 y3) (turncockref1_plain.j1 (k + 1) y0 y1 y2 y3))
  | 0 => ⟨fun _ _ _ r h => by simp [turncockref1_plain.l0] at h, fun _ _ _ _ r h => by simp [turncockref1_plain.j1] at h⟩
  | k + 1 => by
    obtain ⟨ih0, ih1⟩ := turncockref1_plain.mono_l k
    refine ⟨?_, ?_⟩
    · intro y0 y1 y2
      unfold turncockref1_plain.l0
      repeat' first
      | (with_reducible exact ih0 _ _ _)
      | (with_reducible exact ih1 _ _ _ _)
      | (with_reducible exact LeO.refl _)
      | (with_reducible exact LeO.none _)
      | (with_reducible refine LeO.ite ?_ ?_)
      | (with_reducible refine LeO.bind ?_ (fun _ => ?_))
      | exact ih0 _ _ _
      | exact ih1 _ _ _ _
      | exact LeO.none _
      | refine LeO.ite ?_ ?_
      | refine LeO.bind ?_ (fun _ => ?_)
    · intro y0 y1 y2 y3
      unfold turncockref1_plain.j1
      repeat' first
      | (with_reducible exact ih0 _ _ _)
      | (with_reducible exact ih1 _ _ _ _)
      | (with_reducible exact LeO.refl _)
      | (with_reducible exact LeO.none _)
      | (with_reducible refine LeO.ite ?_ ?_)
      | (with_reducible refine LeO.bind ?_ (fun _ => ?_))
      | exact ih0 _ _ _
      | exact ih1 _ _ _ _
      | exact LeO.none _
      | refine LeO.ite ?_ ?_
      | refine LeO.bind ?_ (fun _ => ?_)
theorem turncockref1_plain.mono : ∀ a0 k, LeO (turncockref1_plain.f k a0) (turncockref1_plain.f (k + 1) a0) := by
  intro a0 k
  obtain ⟨ih0, ih1⟩ := turncockref1_plain.mono_l k
  unfold turncockref1_plain.f
  repeat' first
      | (with_reducible exact ih0 _ _ _)
      | (with_reducible exact ih1 _ _ _ _)
      | (with_reducible exact LeO.refl _)
      | (with_reducible exact LeO.none _)
      | (with_reducible refine LeO.ite ?_ ?_)
      | (with_reducible refine LeO.bind ?_ (fun _ => ?_))
      | exact ih0 _ _ _
      | exact ih1 _ _ _ _
      | exact LeO.none _
      | refine LeO.ite ?_ ?_
      | refine LeO.bind ?_ (fun _ => ?_)
def turncockref1_plain.T9 : Bool × List (List Nat × List Nat) := (true, [([], []), ([], []), ([], []), ([2], [2]), ([1, 3], [1, 3]), ([4], [4]), ([5], [5]), ([], []), ([], []), ([8], [8]), ([7, 9], [7, 9]), ([10, 5], [10]), ([6, 11], [6, 11]), ([12], [12]), ([13], [13]), ([0, 14, 11], [0, 14]), ([15, 15, 0, 1, 2, 3, 4, 5, 6, 7, 8, 9, 10, 11, 12, 13, 14, 15], [0, 15])])
def turncockref1_plain.B9 : List Nat := [0, 0, 0, 4, 14, 30, 62, 0, 0, 256, 896, 1982, 4094, 8190, 16382, 32767, 65535]
theorem turncockref1_plain.tab9 : rtab .any (opsOf Tryd.f41 9) = turncockref1_plain.T9 := by kernel_rfl
theorem turncockref1_plain.bits9 : waitsOk turncockref1_plain.T9.2 turncockref1_plain.B9 = true := by kernel_rfl
set_option maxHeartbeats 8000000 in
set_option maxRecDepth 100000 in
theorem turncockref1_plain.calls (k : Nat) (a0 : ByteArray) (r1 : ByteArray) (r2 : Bool) (w : World) (h : turncockref1_plain.f k a0 = some (r1, r2)) :
    Calls Tryd.prog 41 #[.string a0] w fun e w' => e = .returned (.tuple #[.string r1, .bool r2]) ∧ Below w.heap.size w w' := by
  have HB := Aside0.mk (Below.refl w.heap.size w)
  have H : (turncockref1_plain.l0 k a0 ([] : List Int) 0) = some (r1, r2) := h
  clear h
  have H' := Aside0.mk H
  clear H
  go_enter Tryd.func41, Tryd.ntmps41
  go_wp2
  go_loopg [4, 5] k (fun kq v4 v5 w' => ∃ (x4_1 : List Int) (x5_1 : Int), v5 = .int .i64 x5_1 ∧ Aside0 (turncockref1_plain.l0 kq a0 x4_1 x5_1 = some (r1, r2)) ∧ Aside0 (kq ≤ k) ∧ Aside0 (Kd.R (Kd.int .u8) 5 w' w.heap.size (fun _ => True) v4 x4_1) ∧ Aside0 (Below w.heap.size w w'))
  case atStart => exact ⟨(([] : List Int)), (0), (by first | rfl | (simp; done) | (simp [*]; done)), H', ⟨Nat.le_refl _⟩, ⟨by first | exact Kd.R_nil _ _ _ _ _ | exact Kd.N_nil _ _ _ _ _ | exact Kd.V_nil _ _ _ _ _ | exact Kd.Q_nil _ _ _ _ _ | exact Kd.S_nil _ _ _ _ _⟩, ⟨by repeat (first | (with_reducible first | exact HB.out | apply below_alloc | apply pw_below_drewN | apply below_drew1) | exact HB.out)⟩⟩
  case round =>
    clear H'
    obtain ⟨x4_1, x5_1, rfl, HA, HK1, HO_4, HB⟩ := hrel
    cases gk with
    | zero => exact absurd HA.out (by simp [turncockref1_plain.l0])
    | succ k1 =>
      have H := HA.out
      clear HA
      simp only [turncockref1_plain.l0] at H
      by_cases c2 : x5_1 < (a0.size : Int)
      · rw [if_pos c2] at H
        have c2b0 : decide (x5_1 < (a0.size : Int)) = true := decide_eq_true c2
        clear c2
        by_cases c3 : 0 ≤ x5_1
        · rw [if_pos c3] at H
          have c3b0 : decide (0 ≤ x5_1) = true := decide_eq_true c3
          clear c3
          by_cases c5 : (bt a0 x5_1) = 37
          · rw [if_pos c5] at H
            have c5b0 : ((bt a0 x5_1) == 37) = true := beq_iff_eq.mpr c5
            have c5b1 : ((bt a0 x5_1) != 37) = false := bne_eq_false_iff_eq.mpr c5
            clear c5
            have HC6 := Aside0.mk H
            clear H
            have p4 : 0 ≤ (x5_1 : Int) := of_decide_eq_true (by first | (with_reducible assumption) | assumption)
            have q4 : x5_1 < (a0.size : Int) := of_decide_eq_true (by first | (with_reducible assumption) | assumption)
            have hx4 := bt_at a0 x5_1
            replace p4 := eq_true p4
            replace q4 := eq_true q4
            go_upto_region 7 with (fail)
            go_cut [42] (fun v42 wc => ∃ (kq : Nat) (x42_5 : Bool), v42 = .bool x42_5 ∧ Aside0 (turncockref1_plain.j1 kq a0 x4_1 x5_1 x42_5 = some (r1, r2)) ∧ Aside0 (kq ≤ k1) ∧ Aside0 (Kd.R (Kd.int .u8) 5 wc w.heap.size (fun _ => True) u4 x4_1) ∧ Aside0 (Below w.heap.size w wc))
            case first =>
              have H := HC6.out
              clear HC6
              by_cases c7 : (wrap64 (x5_1 + 2)) ≥ (a0.size : Int)
              · rw [if_pos c7] at H
                have c7b0 : decide ((a0.size : Int) ≤ (wrap64 (x5_1 + 2))) = true := decide_eq_true c7
                clear c7
                (first | rw [c7b0] | (simp only [i64_w, i32_w]; rw [c7b0]) | skip)
                have H' := Aside0.mk H
                clear H
                go_wp2
                go_meet
                case rel => exact ⟨_, (true), (by first | rfl | (simp; done) | (simp [*]; done)), H', ⟨by have := HK1.out; first | omega | exact Nat.le_refl _⟩, ⟨by (with_reducible repeat (first | apply Kd.R_alloc | apply Kd.R_drewN | apply Kd.R_drew)); exact HO_4.out⟩, ⟨by repeat (first | (with_reducible first | exact HB.out | apply below_alloc | apply pw_below_drewN | apply below_drew1) | exact HB.out)⟩⟩
              · rw [if_neg c7] at H
                have c7b0 : decide ((a0.size : Int) ≤ (wrap64 (x5_1 + 2))) = false := decide_eq_false c7
                clear c7
                (first | rw [c7b0] | (simp only [i64_w, i32_w]; rw [c7b0]) | skip)
                obtain ⟨ji8, hji8⟩ : ∃ j_ : Int, (wrap64 (x5_1 + 1)) = j_ := ⟨_, rfl⟩
                replace H : (if 0 ≤ (ji8) then (if (ji8) < (a0.size : Int) then ((turncockref1_hex.f (bt a0 (ji8))).bind fun t251 => (if t251 < 0 then (turncockref1_plain.j1 k1 a0 x4_1 x5_1 true) else (if 0 ≤ (wrap64 (x5_1 + 2)) then (if (wrap64 (x5_1 + 2)) < (a0.size : Int) then ((turncockref1_hex.f (bt a0 (wrap64 (x5_1 + 2)))).bind fun t252 => (turncockref1_plain.j1 k1 a0 x4_1 x5_1 (decide (t252 < 0)))) else (none)) else (none)))) else (none)) else (none)) = some (r1, r2) := by first | (rw [hji8] at H; exact H) | (simp only [hji8] at H ⊢; exact H)
                have hji8w : (IntKind.i64.wrap (x5_1 + 1)) = ji8 := (i64_w _).trans hji8
                by_cases c9 : 0 ≤ (ji8)
                · rw [if_pos c9] at H
                  have c9b0 : decide (0 ≤ (ji8)) = true := decide_eq_true c9
                  clear c9
                  by_cases c10 : (ji8) < (a0.size : Int)
                  · rw [if_pos c10] at H
                    have c10b0 : decide ((ji8) < (a0.size : Int)) = true := decide_eq_true c10
                    clear c10
                    replace H := Option.bind_eq_some_iff.mp H
                    obtain ⟨t251, A120, H⟩ := H
                    replace H : (if t251 < 0 then (turncockref1_plain.j1 k1 a0 x4_1 x5_1 true) else (if 0 ≤ (wrap64 (x5_1 + 2)) then (if (wrap64 (x5_1 + 2)) < (a0.size : Int) then ((turncockref1_hex.f (bt a0 (wrap64 (x5_1 + 2)))).bind fun t252 => (turncockref1_plain.j1 k1 a0 x4_1 x5_1 (decide (t252 < 0)))) else (none)) else (none))) = some (r1, r2) := H
                    have A12 := Aside0.mk A120
                    clear A120
                    by_cases c13 : t251 < 0
                    · rw [if_pos c13] at H
                      have c13b0 : decide (t251 < 0) = true := decide_eq_true c13
                      clear c13
                      have H' := Aside0.mk H
                      clear H
                      have p11 : 0 ≤ ((ji8) : Int) := of_decide_eq_true (by first | (with_reducible assumption) | assumption)
                      have q11 : (ji8) < (a0.size : Int) := of_decide_eq_true (by first | (with_reducible assumption) | assumption)
                      have hx11 := bt_at a0 (ji8)
                      replace p11 := eq_true p11
                      replace q11 := eq_true q11
                      go_wp2_with (first | (go_at_call 68; (with_reducible refine (turncockref1_hex.calls (bt a0 (ji8)) t251 _ A12.out).mono ?_); rintro e w' ⟨rfl, ⟨nd, rfl⟩⟩))
                      go_meet
                      case rel => exact ⟨_, (true), (by first | rfl | (simp; done) | (simp [*]; done)), H', ⟨by have := HK1.out; first | omega | exact Nat.le_refl _⟩, ⟨by (with_reducible repeat (first | apply Kd.R_alloc | apply Kd.R_drewN | apply Kd.R_drew)); exact HO_4.out⟩, ⟨by repeat (first | (with_reducible first | exact HB.out | apply below_alloc | apply pw_below_drewN | apply below_drew1) | exact HB.out)⟩⟩
                    · rw [if_neg c13] at H
                      have c13b0 : decide (t251 < 0) = false := decide_eq_false c13
                      clear c13
                      obtain ⟨ji14, hji14⟩ : ∃ j_ : Int, (wrap64 (x5_1 + 2)) = j_ := ⟨_, rfl⟩
                      replace H : (if 0 ≤ (ji14) then (if (ji14) < (a0.size : Int) then ((turncockref1_hex.f (bt a0 (ji14))).bind fun t252 => (turncockref1_plain.j1 k1 a0 x4_1 x5_1 (decide (t252 < 0)))) else (none)) else (none)) = some (r1, r2) := by first | (rw [hji14] at H; exact H) | (simp only [hji14] at H ⊢; exact H)
                      (try rw [hji14] at c7b0)
                      (try rw [hji14] at A12)
                      have hji14w : (IntKind.i64.wrap (x5_1 + 2)) = ji14 := (i64_w _).trans hji14
                      by_cases c15 : 0 ≤ (ji14)
                      · rw [if_pos c15] at H
                        have c15b0 : decide (0 ≤ (ji14)) = true := decide_eq_true c15
                        clear c15
                        by_cases c16 : (ji14) < (a0.size : Int)
                        · rw [if_pos c16] at H
                          have c16b0 : decide ((ji14) < (a0.size : Int)) = true := decide_eq_true c16
                          clear c16
                          replace H := Option.bind_eq_some_iff.mp H
                          obtain ⟨t252, A180, H⟩ := H
                          replace H : (turncockref1_plain.j1 k1 a0 x4_1 x5_1 (decide (t252 < 0))) = some (r1, r2) := H
                          have A18 := Aside0.mk A180
                          clear A180
                          have H' := Aside0.mk H
                          clear H
                          have p11 : 0 ≤ ((ji8) : Int) := of_decide_eq_true (by first | (with_reducible assumption) | assumption)
                          have q11 : (ji8) < (a0.size : Int) := of_decide_eq_true (by first | (with_reducible assumption) | assumption)
                          have hx11 := bt_at a0 (ji8)
                          replace p11 := eq_true p11
                          replace q11 := eq_true q11
                          go_wp2_with (first | (go_at_call 68; (with_reducible refine (turncockref1_hex.calls (bt a0 (ji8)) t251 _ A12.out).mono ?_); rintro e w' ⟨rfl, ⟨nd, rfl⟩⟩; have p17 : 0 ≤ ((ji14) : Int) := of_decide_eq_true (by first | (with_reducible assumption) | assumption); have q17 : (ji14) < (a0.size : Int) := of_decide_eq_true (by first | (with_reducible assumption) | assumption); have hx17 := bt_at a0 (ji14); replace p17 := eq_true p17; replace q17 := eq_true q17) | (go_at_call 68; (with_reducible refine (turncockref1_hex.calls (bt a0 (ji14)) t252 _ A18.out).mono ?_); rintro e w' ⟨rfl, ⟨nd, rfl⟩⟩))
                          go_meet
                          case rel => exact ⟨_, (decide (t252 < 0)), (by first | rfl | (simp; done) | (simp [*]; done)), H', ⟨by have := HK1.out; first | omega | exact Nat.le_refl _⟩, ⟨by (with_reducible repeat (first | apply Kd.R_alloc | apply Kd.R_drewN | apply Kd.R_drew)); exact HO_4.out⟩, ⟨by repeat (first | (with_reducible first | exact HB.out | apply below_alloc | apply pw_below_drewN | apply below_drew1) | exact HB.out)⟩⟩
                        · rw [if_neg c16] at H
                          exact absurd H (by simp)
                      · rw [if_neg c15] at H
                        exact absurd H (by simp)
                  · rw [if_neg c10] at H
                    exact absurd H (by simp)
                · rw [if_neg c9] at H
                  exact absurd H (by simp)
            case rest =>
              clear HC6
              try clear c1
              try clear p1
              try clear q1
              try clear hx1
              try clear c2
              try clear c2b0
              try clear p2
              try clear c3
              try clear c3b0
              try clear c4
              try clear p4
              try clear q4
              try clear hx4
              try clear c5
              try clear c5b0
              try clear c5b1
              try clear p6
              try clear c7
              try clear c7b0
              try clear c9
              try clear c9b0
              try clear c10
              try clear c10b0
              try clear p11
              try clear q11
              try clear hx11
              try clear c13
              try clear c13b0
              try clear c15
              try clear c15b0
              try clear c16
              try clear c16b0
              try clear p17
              try clear q17
              try clear hx17
              try clear p11
              try clear p17
              try clear p4
              try clear q11
              try clear q17
              try clear q4
              obtain ⟨kq, x42_5, rfl, HA, HJ5, HO_4, HB⟩ := hcut
              cases kq with
              | zero => exact absurd HA.out (by simp [turncockref1_plain.j1])
              | succ kj5 =>
                have H := HA.out
                clear HA
                simp only [turncockref1_plain.j1] at H
                by_cases c19 : x42_5 = true
                · subst c19
                  have H1 : (some ((⟨#[]⟩ : ByteArray), false)) = some (r1, r2) := by rw [if_pos rfl] at H; exact H
                  clear H
                  have H := H1
                  clear H1
                  simp only [Option.some.injEq, Prod.mk.injEq] at H
                  obtain ⟨rfl, rfl⟩ := H
                  go_wp2
                  go_ret2
                  exact ⟨by first | rfl | (simp [errW_none, errW_some] <;> rfl) | (simp [*, errW_none, errW_some] <;> rfl), by repeat (first | (with_reducible first | exact HB.out | apply below_alloc | apply pw_below_drewN | apply below_drew1) | exact HB.out)⟩
                · replace c19 := Bool.eq_false_iff.mpr c19
                  subst c19
                  have H1 : (if 0 ≤ (wrap64 (x5_1 + 1)) then (if (wrap64 (x5_1 + 1)) < (a0.size : Int) then ((turncockref1_hex.f (bt a0 (wrap64 (x5_1 + 1)))).bind fun t253 => (if 0 ≤ (wrap64 (x5_1 + 2)) then (if (wrap64 (x5_1 + 2)) < (a0.size : Int) then ((turncockref1_hex.f (bt a0 (wrap64 (x5_1 + 2)))).bind fun t254 => (if x4_1.length < 140737488355328 then (turncockref1_plain.l0 kj5 a0 (x4_1 ++ [(wrap64 ((wrap64 (16 * t253)) + t254)) % 256]) (wrap64 ((wrap64 (x5_1 + 2)) + 1))) else (none))) else (none)) else (none))) else (none)) else (none)) = some (r1, r2) := by rw [if_neg (show ¬ (false = true) by decide)] at H; exact H
                  clear H
                  have H := H1
                  clear H1
                  obtain ⟨ji20, hji20⟩ : ∃ j_ : Int, (wrap64 (x5_1 + 1)) = j_ := ⟨_, rfl⟩
                  replace H : (if 0 ≤ (ji20) then (if (ji20) < (a0.size : Int) then ((turncockref1_hex.f (bt a0 (ji20))).bind fun t253 => (if 0 ≤ (wrap64 (x5_1 + 2)) then (if (wrap64 (x5_1 + 2)) < (a0.size : Int) then ((turncockref1_hex.f (bt a0 (wrap64 (x5_1 + 2)))).bind fun t254 => (if x4_1.length < 140737488355328 then (turncockref1_plain.l0 kj5 a0 (x4_1 ++ [(wrap64 ((wrap64 (16 * t253)) + t254)) % 256]) (wrap64 ((wrap64 (x5_1 + 2)) + 1))) else (none))) else (none)) else (none))) else (none)) else (none)) = some (r1, r2) := by first | (rw [hji20] at H; exact H) | (simp only [hji20] at H ⊢; exact H)
                  have hji20w : (IntKind.i64.wrap (x5_1 + 1)) = ji20 := (i64_w _).trans hji20
                  by_cases c21 : 0 ≤ (ji20)
                  · rw [if_pos c21] at H
                    have c21b0 : decide (0 ≤ (ji20)) = true := decide_eq_true c21
                    clear c21
                    by_cases c22 : (ji20) < (a0.size : Int)
                    · rw [if_pos c22] at H
                      have c22b0 : decide ((ji20) < (a0.size : Int)) = true := decide_eq_true c22
                      clear c22
                      replace H := Option.bind_eq_some_iff.mp H
                      obtain ⟨t253, A240, H⟩ := H
                      replace H : (if 0 ≤ (wrap64 (x5_1 + 2)) then (if (wrap64 (x5_1 + 2)) < (a0.size : Int) then ((turncockref1_hex.f (bt a0 (wrap64 (x5_1 + 2)))).bind fun t254 => (if x4_1.length < 140737488355328 then (turncockref1_plain.l0 kj5 a0 (x4_1 ++ [(wrap64 ((wrap64 (16 * t253)) + t254)) % 256]) (wrap64 ((wrap64 (x5_1 + 2)) + 1))) else (none))) else (none)) else (none)) = some (r1, r2) := H
                      have A24 := Aside0.mk A240
                      clear A240
                      obtain ⟨ji25, hji25⟩ : ∃ j_ : Int, (wrap64 (x5_1 + 2)) = j_ := ⟨_, rfl⟩
                      replace H : (if 0 ≤ (ji25) then (if (ji25) < (a0.size : Int) then ((turncockref1_hex.f (bt a0 (ji25))).bind fun t254 => (if x4_1.length < 140737488355328 then (turncockref1_plain.l0 kj5 a0 (x4_1 ++ [(wrap64 ((wrap64 (16 * t253)) + t254)) % 256]) (wrap64 ((ji25) + 1))) else (none))) else (none)) else (none)) = some (r1, r2) := by first | (rw [hji25] at H; exact H) | (simp only [hji25] at H ⊢; exact H)
                      (try rw [hji25] at A24)
                      have hji25w : (IntKind.i64.wrap (x5_1 + 2)) = ji25 := (i64_w _).trans hji25
                      by_cases c26 : 0 ≤ (ji25)
                      · rw [if_pos c26] at H
                        have c26b0 : decide (0 ≤ (ji25)) = true := decide_eq_true c26
                        clear c26
                        by_cases c27 : (ji25) < (a0.size : Int)
                        · rw [if_pos c27] at H
                          have c27b0 : decide ((ji25) < (a0.size : Int)) = true := decide_eq_true c27
                          clear c27
                          replace H := Option.bind_eq_some_iff.mp H
                          obtain ⟨t254, A290, H⟩ := H
                          replace H : (if x4_1.length < 140737488355328 then (turncockref1_plain.l0 kj5 a0 (x4_1 ++ [(wrap64 ((wrap64 (16 * t253)) + t254)) % 256]) (wrap64 ((ji25) + 1))) else (none)) = some (r1, r2) := H
                          have A29 := Aside0.mk A290
                          clear A290
                          by_cases c30 : x4_1.length < 140737488355328
                          · rw [if_pos c30] at H
                            have LMc30 := Aside0.mk c30
                            clear c30
                            obtain ⟨y255, hy255⟩ : ∃ y_ : List Int, y_ = (x4_1 ++ [(wrap64 ((wrap64 (16 * t253)) + t254)) % 256]) := ⟨_, rfl⟩
                            replace H : (turncockref1_plain.l0 kj5 a0 y255 (wrap64 ((ji25) + 1))) = some (r1, r2) := by first | (rw [hy255]; with_reducible exact H) | (have H2_ := (Option.bind_some _ _).symm.trans H; rw [hy255]; with_reducible exact H2_) | (have H2_ := (Option.bind_some _ _).symm.trans H; with_reducible exact H2_) | with_reducible exact H | (rw [hy255]; exact H) | exact H
                            have Ny255 := Aside0.mk hy255
                            clear hy255
                            have H' := Aside0.mk H
                            clear H
                            try go_wp2
                            have n0_ := Aside0.mk (Kd.R_drew HO_4.out)
                            have n1_ := Aside0.mk (below_drew1 HB.out)
                            clear HO_4
                            clear HB
                            have HO_4 := n0_
                            have HB := n1_
                            clear n0_ n1_
                            have p23 : 0 ≤ ((ji20) : Int) := of_decide_eq_true (by first | (with_reducible assumption) | assumption)
                            have q23 : (ji20) < (a0.size : Int) := of_decide_eq_true (by first | (with_reducible assumption) | assumption)
                            have hx23 := bt_at a0 (ji20)
                            replace p23 := eq_true p23
                            replace q23 := eq_true q23
                            have p28 : 0 ≤ ((ji25) : Int) := of_decide_eq_true (by first | (with_reducible assumption) | assumption)
                            have q28 : (ji25) < (a0.size : Int) := of_decide_eq_true (by first | (with_reducible assumption) | assumption)
                            have hx28 := bt_at a0 (ji25)
                            replace p28 := eq_true p28
                            replace q28 := eq_true q28
                            refine start_ (n := 17) (S := fun w' => True) (ds := []) #[false, false, false, false, false, false, false, false, false, false, false, false, false, false, false, false, false] (by kernel_rfl) rfl rfl trivial (fun hHeld => ?_); refine with_tabW turncockref1_plain.tab9 turncockref1_plain.bits9 (fun HT_ HW_ => ?_)
                            generalize wc.drew = w31 at HO_4 HB hHeld ⊢
                            refine pure_ (i := 0) (N := some 43) (v := ?_) (a' := ?_) #[true, false, false, false, false, false, false, false, false, false, false, false, false, false, false, false, false] rfl rfl (any_of HT_.out (by kernel_rfl)) (fun _ _ _ h => h) (Or.inl ⟨by rfl, ?_⟩) ?_ ?_
                            rotate_left
                            · intro w'
                              go_simp
                              (first | with_reducible rfl | (rw [if_neg (by first | omega | (simp only [ByteArray.size_append] at *; omega) | (have hl_ : ∀ l_ : List UInt8, (⟨l_.toArray⟩ : ByteArray).size = l_.length := (fun l_ => by show l_.toArray.size = _; simp); simp only [ByteArray.size_append, hl_, List.length_cons, List.length_nil] at *; omega))]))
                            rotate_left
                            · simp only [Act.put, List.setIfInBounds_toArray, List.set_cons_zero, List.set_cons_succ, i64_w, i32_w]
                              rfl
                            refine pure_ (i := 1) (N := some 44) (v := ?_) (a' := ?_) #[true, true, false, false, false, false, false, false, false, false, false, false, false, false, false, false, false] rfl rfl (any_of HT_.out (by kernel_rfl)) (fun _ _ _ h => h) (Or.inl ⟨by rfl, ?_⟩) ?_ ?_
                            rotate_left
                            · intro w'
                              go_simp
                              (first | with_reducible rfl | (rw [if_neg (by first | omega | (simp only [ByteArray.size_append] at *; omega) | (have hl_ : ∀ l_ : List UInt8, (⟨l_.toArray⟩ : ByteArray).size = l_.length := (fun l_ => by show l_.toArray.size = _; simp); simp only [ByteArray.size_append, hl_, List.length_cons, List.length_nil] at *; omega))]))
                            rotate_left
                            · simp only [Act.put, List.setIfInBounds_toArray, List.set_cons_zero, List.set_cons_succ, i64_w, i32_w]
                              rfl
                            refine pure_ (i := 2) (N := some 45) (v := ?_) (a' := ?_) #[true, true, true, false, false, false, false, false, false, false, false, false, false, false, false, false, false] rfl rfl (any_of HT_.out (by kernel_rfl)) (fun _ _ _ h => h) (Or.inl ⟨by rfl, ?_⟩) ?_ ?_
                            rotate_left
                            · intro w'
                              go_simp
                              (first | with_reducible rfl | (rw [if_neg (by first | omega | (simp only [ByteArray.size_append] at *; omega) | (have hl_ : ∀ l_ : List UInt8, (⟨l_.toArray⟩ : ByteArray).size = l_.length := (fun l_ => by show l_.toArray.size = _; simp); simp only [ByteArray.size_append, hl_, List.length_cons, List.length_nil] at *; omega))]))
                            rotate_left
                            · simp only [Act.put, List.setIfInBounds_toArray, List.set_cons_zero, List.set_cons_succ, i64_w, i32_w]
                              rfl
                            refine pure_ (i := 3) (N := some 46) (v := ?_) (a' := ?_) #[true, true, true, true, false, false, false, false, false, false, false, false, false, false, false, false, false] rfl rfl (any_of HT_.out (by kernel_rfl)) (fun _ _ _ h => h) (Or.inl ⟨by rfl, ?_⟩) ?_ ?_
                            rotate_left
                            · intro w'
                              go_simp
                              (first | with_reducible rfl | (rw [if_neg (by first | omega | (simp only [ByteArray.size_append] at *; omega) | (have hl_ : ∀ l_ : List UInt8, (⟨l_.toArray⟩ : ByteArray).size = l_.length := (fun l_ => by show l_.toArray.size = _; simp); simp only [ByteArray.size_append, hl_, List.length_cons, List.length_nil] at *; omega))]))
                            rotate_left
                            · simp only [Act.put, List.setIfInBounds_toArray, List.set_cons_zero, List.set_cons_succ, i64_w, i32_w]
                              rfl
                            refine pure_ (i := 7) (N := some 50) (v := ?_) (a' := ?_) #[true, true, true, true, false, false, false, true, false, false, false, false, false, false, false, false, false] rfl rfl (any_of HT_.out (by kernel_rfl)) (fun _ _ _ h => h) (Or.inl ⟨by rfl, ?_⟩) ?_ ?_
                            rotate_left
                            · intro w'
                              go_simp
                              (first | with_reducible rfl | (rw [if_neg (by first | omega | (simp only [ByteArray.size_append] at *; omega) | (have hl_ : ∀ l_ : List UInt8, (⟨l_.toArray⟩ : ByteArray).size = l_.length := (fun l_ => by show l_.toArray.size = _; simp); simp only [ByteArray.size_append, hl_, List.length_cons, List.length_nil] at *; omega))]))
                            rotate_left
                            · simp only [Act.put, List.setIfInBounds_toArray, List.set_cons_zero, List.set_cons_succ, i64_w, i32_w]
                              rfl
                            refine pure_ (i := 8) (N := some 51) (v := ?_) (a' := ?_) #[true, true, true, true, false, false, false, true, true, false, false, false, false, false, false, false, false] rfl rfl (any_of HT_.out (by kernel_rfl)) (fun _ _ _ h => h) (Or.inl ⟨by rfl, ?_⟩) ?_ ?_
                            rotate_left
                            · intro w'
                              go_simp
                              (first | with_reducible rfl | (rw [if_neg (by first | omega | (simp only [ByteArray.size_append] at *; omega) | (have hl_ : ∀ l_ : List UInt8, (⟨l_.toArray⟩ : ByteArray).size = l_.length := (fun l_ => by show l_.toArray.size = _; simp); simp only [ByteArray.size_append, hl_, List.length_cons, List.length_nil] at *; omega))]))
                            rotate_left
                            · simp only [Act.put, List.setIfInBounds_toArray, List.set_cons_zero, List.set_cons_succ, i64_w, i32_w]
                              rfl
                            refine pure_ (i := 9) (N := some 52) (v := ?_) (a' := ?_) #[true, true, true, true, false, false, false, true, true, true, false, false, false, false, false, false, false] rfl rfl (any_of HT_.out (by kernel_rfl)) (fun _ _ _ h => h) (Or.inl ⟨by rfl, ?_⟩) ?_ ?_
                            rotate_left
                            · intro w'
                              go_simp
                              (first | with_reducible rfl | (rw [if_neg (by first | omega | (simp only [ByteArray.size_append] at *; omega) | (have hl_ : ∀ l_ : List UInt8, (⟨l_.toArray⟩ : ByteArray).size = l_.length := (fun l_ => by show l_.toArray.size = _; simp); simp only [ByteArray.size_append, hl_, List.length_cons, List.length_nil] at *; omega))]))
                            rotate_left
                            · simp only [Act.put, List.setIfInBounds_toArray, List.set_cons_zero, List.set_cons_succ, i64_w, i32_w]
                              rfl
                            refine take_ (i := 4) (N := some 47) (v := ?_) (a' := ?_) #[true, true, true, true, true, false, false, true, true, true, false, false, false, false, false, false, false] rfl rfl (take_ofW HT_.out HW_.out (by kernel_rfl)) (fun _ _ _ h => h) (Or.inl ⟨by rfl, ?_⟩) hHeld ?_ ?_
                            rotate_left
                            · intro w' _
                              go_simp
                              (first | with_reducible rfl | (rw [if_neg (by first | omega | (simp only [ByteArray.size_append] at *; omega) | (have hl_ : ∀ l_ : List UInt8, (⟨l_.toArray⟩ : ByteArray).size = l_.length := (fun l_ => by show l_.toArray.size = _; simp); simp only [ByteArray.size_append, hl_, List.length_cons, List.length_nil] at *; omega))]))
                            rotate_left
                            · simp only [Act.put, List.setIfInBounds_toArray, List.set_cons_zero, List.set_cons_succ, i64_w, i32_w]
                              rfl
                            refine take_ (i := 10) (N := some 53) (v := ?_) (a' := ?_) #[true, true, true, true, true, false, false, true, true, true, true, false, false, false, false, false, false] rfl rfl (take_ofW HT_.out HW_.out (by kernel_rfl)) (fun _ _ _ h => h) (Or.inl ⟨by rfl, ?_⟩) hHeld ?_ ?_
                            rotate_left
                            · intro w' _
                              go_simp
                              (first | with_reducible rfl | (rw [if_neg (by first | omega | (simp only [ByteArray.size_append] at *; omega) | (have hl_ : ∀ l_ : List UInt8, (⟨l_.toArray⟩ : ByteArray).size = l_.length := (fun l_ => by show l_.toArray.size = _; simp); simp only [ByteArray.size_append, hl_, List.length_cons, List.length_nil] at *; omega))]))
                            rotate_left
                            · simp only [Act.put, List.setIfInBounds_toArray, List.set_cons_zero, List.set_cons_succ, i64_w, i32_w]
                              rfl
                            refine one_ (i := 5) (N := some 48) #[true, true, true, true, true, true, false, true, true, true, true, false, false, false, false, false, false] rfl rfl (one_of HT_.out (by kernel_rfl)) (by decide) (fun K hK => ?_)
                            refine goes_ Tryd.func68 (by kernel_rfl) rfl #[.int .u8 (bt a0 (ji20))] (by rfl) rfl rfl (by (try simp only [List.map_toArray, List.map_cons, List.map_nil]); first | done | (simp only [hji20]; rfl) | rfl | (simp only [List.length_drop, List.length_take]; rfl)) ?_
                            with_reducible refine (turncockref1_hex.calls (bt a0 (ji20)) t253 _ A24.out).mono ?_
                            rintro e w' ⟨rfl, ⟨nd, rfl⟩⟩
                            refine ⟨_, rfl, ?_⟩
                            refine hK.out _ _ trivial (fun hHeld => ?_)
                            clear hK K
                            refine norm_ (a' := ?_) ?_ ?_
                            rotate_left
                            · show Act.put _ (some 48) _ = _
                              simp only [Act.put, List.setIfInBounds_toArray, List.set_cons_zero, List.set_cons_succ, i64_w, i32_w]
                              rfl
                            refine pure_ (i := 6) (N := some 49) (v := ?_) (a' := ?_) #[true, true, true, true, true, true, true, true, true, true, true, false, false, false, false, false, false] rfl rfl (any_of HT_.out (by kernel_rfl)) (fun _ _ _ h => h) (Or.inl ⟨by rfl, ?_⟩) ?_ ?_
                            rotate_left
                            · intro w'
                              go_simp
                              (first | with_reducible rfl | (rw [if_neg (by first | omega | (simp only [ByteArray.size_append] at *; omega) | (have hl_ : ∀ l_ : List UInt8, (⟨l_.toArray⟩ : ByteArray).size = l_.length := (fun l_ => by show l_.toArray.size = _; simp); simp only [ByteArray.size_append, hl_, List.length_cons, List.length_nil] at *; omega))]))
                            rotate_left
                            · simp only [Act.put, List.setIfInBounds_toArray, List.set_cons_zero, List.set_cons_succ, i64_w, i32_w]
                              rfl
                            refine one_ (i := 11) (N := some 54) #[true, true, true, true, true, true, true, true, true, true, true, true, false, false, false, false, false] rfl rfl (one_of HT_.out (by kernel_rfl)) (by decide) (fun K hK => ?_)
                            refine goes_ Tryd.func68 (by kernel_rfl) rfl #[.int .u8 (bt a0 (ji25))] (by rfl) rfl rfl (by (try simp only [List.map_toArray, List.map_cons, List.map_nil]); first | done | (simp only [hji25]; rfl) | rfl | (simp only [List.length_drop, List.length_take]; rfl)) ?_
                            with_reducible refine (turncockref1_hex.calls (bt a0 (ji25)) t254 _ A29.out).mono ?_
                            rintro e w' ⟨rfl, ⟨nd, rfl⟩⟩
                            refine ⟨_, rfl, ?_⟩
                            refine hK.out _ _ trivial (fun hHeld => ?_)
                            clear hK K
                            refine norm_ (a' := ?_) ?_ ?_
                            rotate_left
                            · show Act.put _ (some 54) _ = _
                              simp only [Act.put, List.setIfInBounds_toArray, List.set_cons_zero, List.set_cons_succ, i64_w, i32_w]
                              rfl
                            refine pure_ (i := 12) (N := some 55) (v := ?_) (a' := ?_) #[true, true, true, true, true, true, true, true, true, true, true, true, true, false, false, false, false] rfl rfl (any_of HT_.out (by kernel_rfl)) (fun _ _ _ h => h) (Or.inl ⟨by rfl, ?_⟩) ?_ ?_
                            rotate_left
                            · intro w'
                              go_simp
                              (first | with_reducible rfl | (rw [if_neg (by first | omega | (simp only [ByteArray.size_append] at *; omega) | (have hl_ : ∀ l_ : List UInt8, (⟨l_.toArray⟩ : ByteArray).size = l_.length := (fun l_ => by show l_.toArray.size = _; simp); simp only [ByteArray.size_append, hl_, List.length_cons, List.length_nil] at *; omega))]))
                            rotate_left
                            · simp only [Act.put, List.setIfInBounds_toArray, List.set_cons_zero, List.set_cons_succ, i64_w, i32_w]
                              rfl
                            refine pure_ (i := 13) (N := some 56) (v := ?_) (a' := ?_) #[true, true, true, true, true, true, true, true, true, true, true, true, true, true, false, false, false] rfl rfl (any_of HT_.out (by kernel_rfl)) (fun _ _ _ h => h) (Or.inl ⟨by rfl, ?_⟩) ?_ ?_
                            rotate_left
                            · intro w'
                              go_simp
                              (first | with_reducible rfl | (rw [if_neg (by first | omega | (simp only [ByteArray.size_append] at *; omega) | (have hl_ : ∀ l_ : List UInt8, (⟨l_.toArray⟩ : ByteArray).size = l_.length := (fun l_ => by show l_.toArray.size = _; simp); simp only [ByteArray.size_append, hl_, List.length_cons, List.length_nil] at *; omega))]))
                            rotate_left
                            · simp only [Act.put, List.setIfInBounds_toArray, List.set_cons_zero, List.set_cons_succ, i64_w, i32_w]
                              rfl
                            refine one_ (i := 14) (N := some 57) #[true, true, true, true, true, true, true, true, true, true, true, true, true, true, true, false, false] rfl rfl (one_of HT_.out (by kernel_rfl)) (by decide) (fun K hK => ?_)
                            refine value_ (w1 := ?_) (v := ?_) (by rfl) rfl ?_ ?_
                            rotate_left 2
                            · go_simp
                              constructor
                              · rfl
                              · rfl
                            refine hK.out _ _ trivial (fun hHeld => ?_)
                            clear hK K
                            refine norm_ (a' := ?_) ?_ ?_
                            rotate_left
                            · show Act.put _ (some 57) _ = _
                              simp only [Act.put, List.setIfInBounds_toArray, List.set_cons_zero, List.set_cons_succ, i64_w, i32_w]
                              rfl
                            refine one_ (i := 15) (N := some 58) #[true, true, true, true, true, true, true, true, true, true, true, true, true, true, true, true, false] rfl rfl (one_of HT_.out (by kernel_rfl)) (by decide) (fun K hK => ?_)
                            refine Kd.R_append_step (Kd.int .u8) (w0 := w) w.heap.size (by rfl) (.tmp 43) (.tmp 57) 58 5 (.int .u8 0) 1 rfl Tryd.underlying58 info5 rfl (by decide) (by omega) u4 x4_1 ((wrap64 ((wrap64 (16 * t253)) + t254)) % 256) [.int .u8 ((wrap64 ((wrap64 (16 * t253)) + t254)) % 256)] (fun _ => True) (fun _ => False) rfl rfl ?aP (fun _ hk => hk.elim) ?aF ?aO ?aB ?aS ?aL ?_
                            (case aP => exact rfl)
                            (case aB => exact (by repeat (first | (with_reducible first | exact HB.out | apply below_alloc | apply pw_below_drewN | apply below_drew1) | exact HB.out)))
                            (case aF => exact (fun _ _ => trivial))
                            (case aO => exact (by (with_reducible repeat (first | apply Kd.R_alloc | apply Kd.R_drewN | apply Kd.R_drew)); exact HO_4.out))
                            (case aS => exact (below_size (by repeat (first | (with_reducible first | exact HB.out | apply below_alloc | apply pw_below_drewN | apply below_drew1) | exact HB.out))))
                            (case aL => have := LMc30.out; omega)
                            intro v256 w32 ho hb hg hat
                            rw [← Ny255.out] at ho
                            have n0_ := Aside0.mk (hb)
                            have n1_ := Aside0.mk (ho)
                            clear HB
                            clear HO_4
                            have HB := n0_
                            have HO257 := n1_
                            clear n0_ n1_
                            clear ho hb hg hat
                            refine hK.out _ _ trivial (fun hHeld => ?_)
                            clear hK K
                            refine norm_ (a' := ?_) ?_ ?_
                            rotate_left
                            · show Act.put _ (some 58) _ = _
                              simp only [Act.put, List.setIfInBounds_toArray, List.set_cons_zero, List.set_cons_succ, i64_w, i32_w]
                              rfl
                            refine pure_ (i := 16) (N := some 4) (v := ?_) (a' := ?_) #[true, true, true, true, true, true, true, true, true, true, true, true, true, true, true, true, true] rfl rfl (any_of HT_.out (by kernel_rfl)) (fun _ _ _ h => h) (Or.inl ⟨by rfl, ?_⟩) ?_ ?_
                            rotate_left
                            · intro w'
                              go_simp
                              (first | with_reducible rfl | (rw [if_neg (by first | omega | (simp only [ByteArray.size_append] at *; omega) | (have hl_ : ∀ l_ : List UInt8, (⟨l_.toArray⟩ : ByteArray).size = l_.length := (fun l_ => by show l_.toArray.size = _; simp); simp only [ByteArray.size_append, hl_, List.length_cons, List.length_nil] at *; omega))]))
                            rotate_left
                            · simp only [Act.put, List.setIfInBounds_toArray, List.set_cons_zero, List.set_cons_succ, i64_w, i32_w]
                              rfl
                            refine done_ (done_of HT_.out (by kernel_rfl)) ?_
                            try go_wp2
                            go_roundg kj5
                            case measure => have := HK1.out; have := HJ5.out; omega
                            case rel => exact ⟨(y255), (wrap64 ((ji25) + 1)), (by first | rfl | (simp; done) | (simp only [← hji25] <;> (first | rfl | simp)) | (simp [*]; done)), H', ⟨by have := HK1.out; have := HJ5.out; omega⟩, ⟨by (with_reducible repeat (first | apply Kd.R_alloc | apply Kd.R_drewN | apply Kd.R_drew)); exact HO257.out⟩, ⟨by repeat (first | (with_reducible first | exact HB.out | apply below_alloc | apply pw_below_drewN | apply below_drew1) | exact HB.out)⟩⟩
                          · rw [if_neg c30] at H
                            exact absurd H (by simp)
                        · rw [if_neg c27] at H
                          exact absurd H (by simp)
                      · rw [if_neg c26] at H
                        exact absurd H (by simp)
                    · rw [if_neg c22] at H
                      exact absurd H (by simp)
                  · rw [if_neg c21] at H
                    exact absurd H (by simp)
          · rw [if_neg c5] at H
            have c5b0 : ((bt a0 x5_1) == 37) = false := beq_eq_false_iff_ne.mpr c5
            have c5b1 : ((bt a0 x5_1) != 37) = true := bne_iff_ne.mpr c5
            by_cases c34 : x4_1.length < 140737488355328
            · rw [if_pos c34] at H
              have LMc34 := Aside0.mk c34
              clear c34
              obtain ⟨y248, hy248⟩ : ∃ y_ : List Int, y_ = (x4_1 ++ [bt a0 x5_1]) := ⟨_, rfl⟩
              replace H : (turncockref1_plain.l0 k1 a0 y248 (wrap64 (x5_1 + 1))) = some (r1, r2) := by first | (rw [hy248]; with_reducible exact H) | (have H2_ := (Option.bind_some _ _).symm.trans H; rw [hy248]; with_reducible exact H2_) | (have H2_ := (Option.bind_some _ _).symm.trans H; with_reducible exact H2_) | with_reducible exact H | (rw [hy248]; exact H) | exact H
              have Ny248 := Aside0.mk hy248
              clear hy248
              have H' := Aside0.mk H
              clear H
              have p4 : 0 ≤ (x5_1 : Int) := of_decide_eq_true (by first | (with_reducible assumption) | assumption)
              have q4 : x5_1 < (a0.size : Int) := of_decide_eq_true (by first | (with_reducible assumption) | assumption)
              have hx4 := bt_at a0 x5_1
              replace p4 := eq_true p4
              replace q4 := eq_true q4
              have p33 : 0 ≤ (x5_1 : Int) := of_decide_eq_true (by first | (with_reducible assumption) | assumption)
              have q33 : x5_1 < (a0.size : Int) := of_decide_eq_true (by first | (with_reducible assumption) | assumption)
              have hx33 := bt_at a0 x5_1
              replace p33 := eq_true p33
              replace q33 := eq_true q33
              go_wp2_with (first | ((with_reducible refine gate_builtin (b := .append) (xs := #[.tmp 16, .tmp 20]) rfl ?_); at_builtin; refine Kd.R_append (Kd.int .u8) (w0 := w) w.heap.size rfl (.tmp 16) (.tmp 20) 58 5 (.int .u8 0) 1 rfl Tryd.underlying58 info5 rfl (by decide) (by omega) u4 x4_1 (bt a0 x5_1) [.int .u8 (bt a0 x5_1)] (fun _ => True) (fun _ => False) rfl rfl ?aP (fun _ hk => hk.elim) ?aF ?aO ?aB ?aS ?aL ?_; (case aP => exact rfl); (case aB => exact (by repeat (first | (with_reducible first | exact HB.out | apply below_alloc | apply pw_below_drewN | apply below_drew1) | exact HB.out))); (case aF => exact (fun _ _ => trivial)); (case aO => exact (by (with_reducible repeat (first | apply Kd.R_alloc | apply Kd.R_drewN | apply Kd.R_drew)); exact HO_4.out)); (case aS => exact (below_size (by repeat (first | (with_reducible first | exact HB.out | apply below_alloc | apply pw_below_drewN | apply below_drew1) | exact HB.out)))); (case aL => have := LMc34.out; omega); intro v249 w35 ho hb hg hat; rw [← Ny248.out] at ho; have n0_ := Aside0.mk (hb); have n1_ := Aside0.mk (ho); clear HB; clear HO_4; have HB := n0_; have HO250 := n1_; clear n0_ n1_; clear ho hb hg hat))
              go_roundg k1
              case measure => have := HK1.out; omega
              case rel => exact ⟨(y248), (wrap64 (x5_1 + 1)), (by first | rfl | (simp; done) | (simp [*]; done)), H', ⟨by have := HK1.out; omega⟩, ⟨by (with_reducible repeat (first | apply Kd.R_alloc | apply Kd.R_drewN | apply Kd.R_drew)); exact HO250.out⟩, ⟨by repeat (first | (with_reducible first | exact HB.out | apply below_alloc | apply pw_below_drewN | apply below_drew1) | exact HB.out)⟩⟩
            · rw [if_neg c34] at H
              exact absurd H (by simp)
        · rw [if_neg c3] at H
          exact absurd H (by simp)
      · rw [if_neg c2] at H
        have c2b0 : decide (x5_1 < (a0.size : Int)) = false := decide_eq_false c2
        clear c2
        simp only [Option.some.injEq, Prod.mk.injEq] at H
        obtain ⟨rfl, rfl⟩ := H
        have hcv36 := own_string (P := Tryd.prog) Tryd.underlying58 Tryd.underlying5 Tryd.underlying9 (Kd.own_of_R HO_4.out)
        go_wp2
        go_ret2
        exact ⟨by first | rfl | (simp [errW_none, errW_some] <;> rfl) | (simp [*, errW_none, errW_some] <;> rfl), by repeat (first | (with_reducible first | exact HB.out | apply below_alloc | apply pw_below_drewN | apply below_drew1) | exact HB.out)⟩

/-! ### turncockref1_ReadDesc: function 21 -/
mutual
def turncockref1_ReadDesc.l0 : Nat → ByteArray → ByteArray → Bool → List (S47) → Option ((List (S47)) × Bool)
  | 0, _, _, _, _ => none
  | k + 1, x0, x5, x6, x260000 => if x6 = true then ((turncockref1_cut.f k x5 44).bind fun bt261 => ((turncockref1_cut.f k bt261.1 61).bind fun bt264 => ((turncockref1_plain.f k bt264.1).bind fun bt267 => ((turncockref1_plain.f k bt264.2.1).bind fun bt269 => (if bt264.2.2 = true then (if bt267.2 = true then (turncockref1_ReadDesc.j1 k x0 bt261.2.1 bt261.2.2 bt267.1 bt269.1 (!bt269.2) x260000) else (turncockref1_ReadDesc.j1 k x0 bt261.2.1 bt261.2.2 bt267.1 bt269.1 true x260000)) else (turncockref1_ReadDesc.j1 k x0 bt261.2.1 bt261.2.2 bt267.1 bt269.1 true x260000)))))) else ((turncockref1_DescText.f k x260000).bind fun t260 => (if t260.toList = x0.toList then (if x0.toList = ([] : List UInt8) then (some (([] : List (S47)), false)) else (some (x260000, true))) else (some (([] : List (S47)), false))))
def turncockref1_ReadDesc.j1 : Nat → ByteArray → ByteArray → Bool → ByteArray → ByteArray → Bool → List (S47) → Option ((List (S47)) × Bool)
  | 0, _, _, _, _, _, _, _ => none
  | k + 1, x0, x5, x6, x11, x13, x48, x260000 => if x48 = true then (some (([] : List (S47)), false)) else (if x260000.length < 4398046511104 then ((some (x260000 ++ [(⟨x11, x13⟩ : S47)] : List (S47))).bind fun y271 => (if (y271.length : Int) > 8 then (some (([] : List (S47)), false)) else (turncockref1_ReadDesc.l0 k x0 x5 x6 y271))) else (none))
end
def turncockref1_ReadDesc.f (k : Nat) (a0 : ByteArray) : Option ((List (S47)) × Bool) := turncockref1_ReadDesc.l0 k a0 a0 true ([] : List (S47))
theorem turncockref1_ReadDesc.mono_l : ∀ k, (∀ y0 y1 y2 y3, LeO (turncockref1_ReadDesc.l0 k y0 y1 y2 y3) (turncockref1_ReadDesc.l0 (k + 1) y0 y1 y2 y3)) ∧ (∀ y0 y1 y2 y3 y4 y5 y6, LeO (turncockref1_ReadDesc.j1 k y0 y1 y2 y3 y4 y5 y6) (turncockref1_ReadDesc.j1 (k + 1) y0 y1 y2 y3 y4 y5 y6))
  | 0 => ⟨fun _ _ _ _ r h => by simp [turncockref1_ReadDesc.l0] at h, fun _ _ _ _ _ _ _ r h => by simp [turncockref1_ReadDesc.j1] at h⟩
  | k + 1 => by
    obtain ⟨ih0, ih1⟩ := turncockref1_ReadDesc.mono_l k
    refine ⟨?_, ?_⟩
    · intro y0 y1 y2 y3
      unfold turncockref1_ReadDesc.l0
      repeat' first
      | (with_reducible exact ih0 _ _ _ _)
      | (with_reducible exact ih1 _ _ _ _ _ _ _)
      | (with_reducible exact turncockref1_DescText.mono _ _)
      | (with_reducible exact turncockref1_cut.mono _ _ _)
      | (with_reducible exact turncockref1_plain.mono _ _)
      | (with_reducible exact LeO.refl _)
      | (with_reducible exact LeO.none _)
      | (with_reducible refine LeO.ite ?_ ?_)
      | (with_reducible refine LeO.bind ?_ (fun _ => ?_))
      | exact ih0 _ _ _ _
      | exact ih1 _ _ _ _ _ _ _
      | exact turncockref1_DescText.mono _ _
      | exact turncockref1_cut.mono _ _ _
      | exact turncockref1_plain.mono _ _
      | exact LeO.none _
      | refine LeO.ite ?_ ?_
      | refine LeO.bind ?_ (fun _ => ?_)
    · intro y0 y1 y2 y3 y4 y5 y6
      unfold turncockref1_ReadDesc.j1
      repeat' first
      | (with_reducible exact ih0 _ _ _ _)
      | (with_reducible exact ih1 _ _ _ _ _ _ _)
      | (with_reducible exact turncockref1_DescText.mono _ _)
      | (with_reducible exact turncockref1_cut.mono _ _ _)
      | (with_reducible exact turncockref1_plain.mono _ _)
      | (with_reducible exact LeO.refl _)
      | (with_reducible exact LeO.none _)
      | (with_reducible refine LeO.ite ?_ ?_)
      | (with_reducible refine LeO.bind ?_ (fun _ => ?_))
      | exact ih0 _ _ _ _
      | exact ih1 _ _ _ _ _ _ _
      | exact turncockref1_DescText.mono _ _
      | exact turncockref1_cut.mono _ _ _
      | exact turncockref1_plain.mono _ _
      | exact LeO.none _
      | refine LeO.ite ?_ ?_
      | refine LeO.bind ?_ (fun _ => ?_)
theorem turncockref1_ReadDesc.mono : ∀ a0 k, LeO (turncockref1_ReadDesc.f k a0) (turncockref1_ReadDesc.f (k + 1) a0) := by
  intro a0 k
  obtain ⟨ih0, ih1⟩ := turncockref1_ReadDesc.mono_l k
  unfold turncockref1_ReadDesc.f
  repeat' first
      | (with_reducible exact ih0 _ _ _ _)
      | (with_reducible exact ih1 _ _ _ _ _ _ _)
      | (with_reducible exact turncockref1_DescText.mono _ _)
      | (with_reducible exact turncockref1_cut.mono _ _ _)
      | (with_reducible exact turncockref1_plain.mono _ _)
      | (with_reducible exact LeO.refl _)
      | (with_reducible exact LeO.none _)
      | (with_reducible refine LeO.ite ?_ ?_)
      | (with_reducible refine LeO.bind ?_ (fun _ => ?_))
      | exact ih0 _ _ _ _
      | exact ih1 _ _ _ _ _ _ _
      | exact turncockref1_DescText.mono _ _
      | exact turncockref1_cut.mono _ _ _
      | exact turncockref1_plain.mono _ _
      | exact LeO.none _
      | refine LeO.ite ?_ ?_
      | refine LeO.bind ?_ (fun _ => ?_)
set_option maxHeartbeats 8000000 in
set_option maxRecDepth 100000 in
theorem turncockref1_ReadDesc.calls (k : Nat) (a0 : ByteArray) (r1 : List (S47)) (r2 : Bool) (w : World) (h : turncockref1_ReadDesc.f k a0 = some (r1, r2)) :
    Calls Tryd.prog 21 #[.string a0] w fun e w' => ∃ v0_ : Value, e = .returned (.tuple #[.agg #[v0_], .bool r2]) ∧ Kd.R k47 47 w' w.heap.size (fun _ => True) v0_ r1 ∧ Below w.heap.size w w' := by
  have hu24 := Tryd.underlying24
  have hu47 := Tryd.underlying47
  have HB := Aside0.mk (Below.refl w.heap.size w)
  have H : (turncockref1_ReadDesc.l0 k a0 a0 true ([] : List (S47))) = some (r1, r2) := h
  clear h
  have H' := Aside0.mk H
  clear H
  go_enter Tryd.func21, Tryd.ntmps21
  go_wp2_with (first | ((with_reducible refine gate_dst (N := 2) rfl ?_); refine box_event ?hg (N := 2) ?hd (cs := #[.slice none 0 0]) (t := 24) ?hr ?_; (case hd => rfl); (case hg => rfl); (case hr => first | (go_simp; done) | (go_simp; rfl)); intro gb258 hg w2 hbox hb; have n0_ := Aside0.mk (below_step (by repeat (first | (with_reducible first | exact HB.out | apply below_alloc | apply pw_below_drewN | apply below_drew1) | exact HB.out)) hb); have n1_ := Aside0.mk (hbox); have n2_ := Aside0.mk ((by rw [hg]; exact (below_size (by repeat (first | (with_reducible first | exact HB.out | apply below_alloc | apply pw_below_drewN | apply below_drew1) | exact HB.out))) : w.heap.size ≤ gb258)); have n3_ := Aside0.mk ((by rw [hg]; exact (below_size (by repeat (first | (with_reducible first | exact HB.out | apply below_alloc | apply pw_below_drewN | apply below_drew1) | exact HB.out))) : w.heap.size ≤ gb258)); clear HB; have HB := n0_; have BK258 := n1_; have GW258 := n2_; have GE258 := n3_; clear n0_ n1_ n2_ n3_; clear hb hbox hg) | ((with_reducible refine gate_dst (N := 4) rfl ?_); refine box_event ?hg (N := 4) ?hd (cs := #[.slice none 0 0]) (t := 24) ?hr ?_; (case hd => rfl); (case hg => rfl); (case hr => first | (go_simp; done) | (go_simp; rfl)); intro gb259 hg w3 hbox hb; have n0_ := Aside0.mk (blk_below (g := gb258) (o := .cells #[.slice none 0 0] 24 (0, 0)) (by (with_reducible repeat (first | refine blk_drewN ?_ _ | refine blk_drew ?_ | refine blk_alloc ?_ _)); exact BK258.out) hb); have n1_ := Aside0.mk (below_step (by repeat (first | (with_reducible first | exact HB.out | apply below_alloc | apply pw_below_drewN | apply below_drew1 | refine below_set ?_ GE258.out) | exact HB.out)) hb); have n2_ := Aside0.mk (hbox); have n3_ := Aside0.mk ((by rw [hg]; exact (below_size (by repeat (first | (with_reducible first | exact HB.out | apply below_alloc | apply pw_below_drewN | apply below_drew1 | refine below_set ?_ GE258.out) | exact HB.out))) : w.heap.size ≤ gb259)); have n4_ := Aside0.mk ((by rw [hg]; exact (below_size (by repeat (first | (with_reducible first | exact HB.out | apply below_alloc | apply pw_below_drewN | apply below_drew1 | refine below_set ?_ GE258.out) | exact HB.out))) : w.heap.size ≤ gb259)); have n5_ := Aside0.mk ((by rw [hg]; exact Nat.ne_of_lt (blk_lt (g := gb258) (o := .cells #[.slice none 0 0] 24 (0, 0)) (by (with_reducible repeat (first | refine blk_drewN ?_ _ | refine blk_drew ?_ | refine blk_alloc ?_ _)); exact BK258.out)) : gb258 ≠ gb259)); have n6_ := Aside0.mk ((by rw [hg]; exact Nat.ne_of_gt (blk_lt (g := gb258) (o := .cells #[.slice none 0 0] 24 (0, 0)) (by (with_reducible repeat (first | refine blk_drewN ?_ _ | refine blk_drew ?_ | refine blk_alloc ?_ _)); exact BK258.out)) : gb259 ≠ gb258)); clear BK258; clear HB; have BK258 := n0_; have HB := n1_; have BK259 := n2_; have GW259 := n3_; have GE259 := n4_; have NB258_259 := n5_; have NB259_258 := n6_; clear n0_ n1_ n2_ n3_ n4_ n5_ n6_; clear hb hbox hg))
  go_loopg [5, 6] k (fun kq v5 v6 w' => ∃ (x5_1 : ByteArray) (x6_1 : Bool) (x260000_1 : List (S47)) (u260000 : Value), v5 = .string x5_1 ∧ v6 = .bool x6_1 ∧ Aside0 (turncockref1_ReadDesc.l0 kq a0 x5_1 x6_1 x260000_1 = some (r1, r2)) ∧ Aside0 (kq ≤ k) ∧ Aside0 (Kd.R k47 47 w' w.heap.size (fun _ => True) u260000 x260000_1) ∧ Aside0 (w'.heap[gb258]? = some (.cells #[(.slice none 0 0)] 24 (0, 0))) ∧ Aside0 (w'.heap[gb259]? = some (.cells #[u260000] 24 (0, 0))) ∧ Aside0 (Below w.heap.size w w'))
  case atStart => exact ⟨(a0), (true), (([] : List (S47))), (.slice none 0 0), (by first | rfl | (simp; done) | (simp [*]; done)), (by first | rfl | (simp; done) | (simp [*]; done)), H', ⟨Nat.le_refl _⟩, ⟨by first | exact Kd.R_nil _ _ _ _ _ | exact Kd.N_nil _ _ _ _ _ | exact Kd.V_nil _ _ _ _ _ | exact Kd.Q_nil _ _ _ _ _ | exact Kd.S_nil _ _ _ _ _⟩, ⟨by (with_reducible repeat (first | refine blk_drewN ?_ _ | refine blk_drew ?_ | refine blk_alloc ?_ _)); exact BK258.out⟩, ⟨by (with_reducible repeat (first | refine blk_drewN ?_ _ | refine blk_drew ?_ | refine blk_alloc ?_ _)); exact BK259.out⟩, ⟨by repeat (first | (with_reducible first | exact HB.out | apply below_alloc | apply pw_below_drewN | apply below_drew1 | refine below_set ?_ GE258.out | refine below_set ?_ GE259.out) | exact HB.out)⟩⟩
  case round =>
    clear H'
    try clear c2
    try clear p2
    obtain ⟨x5_1, x6_1, x260000_1, u260000, rfl, rfl, HA, HK1, HO_260000, BK258, BK259, HB⟩ := hrel
    cases gk with
    | zero => exact absurd HA.out (by simp [turncockref1_ReadDesc.l0])
    | succ k1 =>
      have H := HA.out
      clear HA
      simp only [turncockref1_ReadDesc.l0] at H
      by_cases c4 : x6_1 = true
      · subst c4
        have H1 : ((turncockref1_cut.f k1 x5_1 44).bind fun bt261 => ((turncockref1_cut.f k1 bt261.1 61).bind fun bt264 => ((turncockref1_plain.f k1 bt264.1).bind fun bt267 => ((turncockref1_plain.f k1 bt264.2.1).bind fun bt269 => (if bt264.2.2 = true then (if bt267.2 = true then (turncockref1_ReadDesc.j1 k1 a0 bt261.2.1 bt261.2.2 bt267.1 bt269.1 (!bt269.2) x260000_1) else (turncockref1_ReadDesc.j1 k1 a0 bt261.2.1 bt261.2.2 bt267.1 bt269.1 true x260000_1)) else (turncockref1_ReadDesc.j1 k1 a0 bt261.2.1 bt261.2.2 bt267.1 bt269.1 true x260000_1)))))) = some (r1, r2) := by rw [if_pos rfl] at H; exact H
        clear H
        have H := H1
        clear H1
        replace H := Option.bind_eq_some_iff.mp H
        obtain ⟨⟨t261, t262, t263⟩, A50, H⟩ := H
        replace H : ((turncockref1_cut.f k1 t261 61).bind fun bt264 => ((turncockref1_plain.f k1 bt264.1).bind fun bt267 => ((turncockref1_plain.f k1 bt264.2.1).bind fun bt269 => (if bt264.2.2 = true then (if bt267.2 = true then (turncockref1_ReadDesc.j1 k1 a0 t262 t263 bt267.1 bt269.1 (!bt269.2) x260000_1) else (turncockref1_ReadDesc.j1 k1 a0 t262 t263 bt267.1 bt269.1 true x260000_1)) else (turncockref1_ReadDesc.j1 k1 a0 t262 t263 bt267.1 bt269.1 true x260000_1))))) = some (r1, r2) := H
        have A5 := Aside0.mk A50
        clear A50
        replace H := Option.bind_eq_some_iff.mp H
        obtain ⟨⟨t264, t265, t266⟩, A60, H⟩ := H
        replace H : ((turncockref1_plain.f k1 t264).bind fun bt267 => ((turncockref1_plain.f k1 t265).bind fun bt269 => (if t266 = true then (if bt267.2 = true then (turncockref1_ReadDesc.j1 k1 a0 t262 t263 bt267.1 bt269.1 (!bt269.2) x260000_1) else (turncockref1_ReadDesc.j1 k1 a0 t262 t263 bt267.1 bt269.1 true x260000_1)) else (turncockref1_ReadDesc.j1 k1 a0 t262 t263 bt267.1 bt269.1 true x260000_1)))) = some (r1, r2) := H
        have A6 := Aside0.mk A60
        clear A60
        replace H := Option.bind_eq_some_iff.mp H
        obtain ⟨⟨t267, t268⟩, A70, H⟩ := H
        replace H : ((turncockref1_plain.f k1 t265).bind fun bt269 => (if t266 = true then (if t268 = true then (turncockref1_ReadDesc.j1 k1 a0 t262 t263 t267 bt269.1 (!bt269.2) x260000_1) else (turncockref1_ReadDesc.j1 k1 a0 t262 t263 t267 bt269.1 true x260000_1)) else (turncockref1_ReadDesc.j1 k1 a0 t262 t263 t267 bt269.1 true x260000_1))) = some (r1, r2) := H
        have A7 := Aside0.mk A70
        clear A70
        replace H := Option.bind_eq_some_iff.mp H
        obtain ⟨⟨t269, t270⟩, A80, H⟩ := H
        replace H : (if t266 = true then (if t268 = true then (turncockref1_ReadDesc.j1 k1 a0 t262 t263 t267 t269 (!t270) x260000_1) else (turncockref1_ReadDesc.j1 k1 a0 t262 t263 t267 t269 true x260000_1)) else (turncockref1_ReadDesc.j1 k1 a0 t262 t263 t267 t269 true x260000_1)) = some (r1, r2) := H
        have A8 := Aside0.mk A80
        clear A80
        have HC9 := Aside0.mk H
        clear H
        go_upto_region 9 with (first | ((with_reducible refine gate_callee (f := 40) rfl ?_); refine goesL_ (some 19) rfl rfl Tryd.func40 (by kernel_rfl) rfl #[.string x5_1, .int .u8 44] rfl (by (try simp only [List.map_toArray, List.map_cons, List.map_nil]); first | done | rfl | (simp only [List.length_drop, List.length_take]; rfl)) ?_; (with_reducible refine (turncockref1_cut.calls k1 x5_1 44 t261 t262 t263 _ A5.out).mono ?_); rintro e w' ⟨rfl, ⟨nd, rfl⟩⟩; refine ⟨_, rfl, ?_⟩) | ((with_reducible refine gate_callee (f := 40) rfl ?_); refine goesL_ (some 25) rfl rfl Tryd.func40 (by kernel_rfl) rfl #[.string t261, .int .u8 61] rfl (by (try simp only [List.map_toArray, List.map_cons, List.map_nil]); first | done | rfl | (simp only [List.length_drop, List.length_take]; rfl)) ?_; (with_reducible refine (turncockref1_cut.calls k1 t261 61 t264 t265 t266 _ A6.out).mono ?_); rintro e w' ⟨rfl, ⟨nd, rfl⟩⟩; refine ⟨_, rfl, ?_⟩) | ((with_reducible refine gate_callee (f := 41) rfl ?_); refine goesL_ (some 31) rfl rfl Tryd.func41 (by kernel_rfl) rfl #[.string t264] rfl (by (try simp only [List.map_toArray, List.map_cons, List.map_nil]); first | done | rfl | (simp only [List.length_drop, List.length_take]; rfl)) ?_; (with_reducible refine (turncockref1_plain.calls k1 t264 t267 t268 _ A7.out).mono ?_); rintro e w10 ⟨rfl, hb⟩; refine ⟨_, rfl, ?_⟩; have n0_ := Aside0.mk (Kd.R_below (by (with_reducible repeat (first | apply Kd.R_alloc | apply Kd.R_drewN | apply Kd.R_drew)); exact HO_260000.out) hb); have n1_ := Aside0.mk (blk_below (g := gb258) (o := .cells #[.slice none 0 0] 24 (0, 0)) (by (with_reducible repeat (first | refine blk_drewN ?_ _ | refine blk_drew ?_ | refine blk_alloc ?_ _)); exact BK258.out) hb); have n2_ := Aside0.mk (blk_below (g := gb259) (o := .cells #[u260000] 24 (0, 0)) (by (with_reducible repeat (first | refine blk_drewN ?_ _ | refine blk_drew ?_ | refine blk_alloc ?_ _)); exact BK259.out) hb); have n3_ := Aside0.mk (below_step (by repeat (first | (with_reducible first | exact HB.out | apply below_alloc | apply pw_below_drewN | apply below_drew1 | refine below_set ?_ GE258.out | refine below_set ?_ GE259.out) | exact HB.out)) hb); clear HO_260000; clear BK258; clear BK259; clear HB; have HO_260000 := n0_; have BK258 := n1_; have BK259 := n2_; have HB := n3_; clear n0_ n1_ n2_ n3_; (try clear hb); (try clear hb2); (try clear hk); (try clear hi)) | ((with_reducible refine gate_callee (f := 41) rfl ?_); refine goesL_ (some 36) rfl rfl Tryd.func41 (by kernel_rfl) rfl #[.string t265] rfl (by (try simp only [List.map_toArray, List.map_cons, List.map_nil]); first | done | rfl | (simp only [List.length_drop, List.length_take]; rfl)) ?_; (with_reducible refine (turncockref1_plain.calls k1 t265 t269 t270 _ A8.out).mono ?_); rintro e w11 ⟨rfl, hb⟩; refine ⟨_, rfl, ?_⟩; have n0_ := Aside0.mk (Kd.R_below (by (with_reducible repeat (first | apply Kd.R_alloc | apply Kd.R_drewN | apply Kd.R_drew)); exact HO_260000.out) hb); have n1_ := Aside0.mk (blk_below (g := gb258) (o := .cells #[.slice none 0 0] 24 (0, 0)) (by (with_reducible repeat (first | refine blk_drewN ?_ _ | refine blk_drew ?_ | refine blk_alloc ?_ _)); exact BK258.out) hb); have n2_ := Aside0.mk (blk_below (g := gb259) (o := .cells #[u260000] 24 (0, 0)) (by (with_reducible repeat (first | refine blk_drewN ?_ _ | refine blk_drew ?_ | refine blk_alloc ?_ _)); exact BK259.out) hb); have n3_ := Aside0.mk (below_step (by repeat (first | (with_reducible first | exact HB.out | apply below_alloc | apply pw_below_drewN | apply below_drew1 | refine below_set ?_ GE258.out | refine below_set ?_ GE259.out) | exact HB.out)) hb); clear HO_260000; clear BK258; clear BK259; clear HB; have HO_260000 := n0_; have BK258 := n1_; have BK259 := n2_; have HB := n3_; clear n0_ n1_ n2_ n3_; (try clear hb); (try clear hb2); (try clear hk); (try clear hi)))
        (try simp only [Act.put, List.setIfInBounds_toArray, List.set_cons_zero, List.set_cons_succ])
        go_cut [48] (fun v48 wc => ∃ (kq : Nat) (x48_8 : Bool), v48 = .bool x48_8 ∧ Aside0 (turncockref1_ReadDesc.j1 kq a0 t262 t263 t267 t269 x48_8 x260000_1 = some (r1, r2)) ∧ Aside0 (kq ≤ k1) ∧ Aside0 (Kd.R k47 47 wc w.heap.size (fun _ => True) u260000 x260000_1) ∧ Aside0 (wc.heap[gb258]? = some (.cells #[(.slice none 0 0)] 24 (0, 0))) ∧ Aside0 (wc.heap[gb259]? = some (.cells #[u260000] 24 (0, 0))) ∧ Aside0 (Below w.heap.size w wc))
        case first =>
          have H := HC9.out
          clear HC9
          by_cases c12 : t266 = true
          · subst c12
            have H1 : (if t268 = true then (turncockref1_ReadDesc.j1 k1 a0 t262 t263 t267 t269 (!t270) x260000_1) else (turncockref1_ReadDesc.j1 k1 a0 t262 t263 t267 t269 true x260000_1)) = some (r1, r2) := by rw [if_pos rfl] at H; exact H
            clear H
            have H := H1
            clear H1
            by_cases c13 : t268 = true
            · subst c13
              have H1 : (turncockref1_ReadDesc.j1 k1 a0 t262 t263 t267 t269 (!t270) x260000_1) = some (r1, r2) := by rw [if_pos rfl] at H; exact H
              clear H
              have H := H1
              clear H1
              have H' := Aside0.mk H
              clear H
              go_wp2
              go_meet
              case rel => exact ⟨_, (!t270), (by first | rfl | (simp; done) | (simp [*]; done)), H', ⟨by have := HK1.out; first | omega | exact Nat.le_refl _⟩, ⟨by (with_reducible repeat (first | apply Kd.R_alloc | apply Kd.R_drewN | apply Kd.R_drew)); exact HO_260000.out⟩, ⟨by (with_reducible repeat (first | refine blk_drewN ?_ _ | refine blk_drew ?_ | refine blk_alloc ?_ _)); exact BK258.out⟩, ⟨by (with_reducible repeat (first | refine blk_drewN ?_ _ | refine blk_drew ?_ | refine blk_alloc ?_ _)); exact BK259.out⟩, ⟨by repeat (first | (with_reducible first | exact HB.out | apply below_alloc | apply pw_below_drewN | apply below_drew1 | refine below_set ?_ GE258.out | refine below_set ?_ GE259.out) | exact HB.out)⟩⟩
            · replace c13 := Bool.eq_false_iff.mpr c13
              subst c13
              have H1 : (turncockref1_ReadDesc.j1 k1 a0 t262 t263 t267 t269 true x260000_1) = some (r1, r2) := by rw [if_neg (show ¬ (false = true) by decide)] at H; exact H
              clear H
              have H := H1
              clear H1
              have H' := Aside0.mk H
              clear H
              go_wp2
              go_meet
              case rel => exact ⟨_, (true), (by first | rfl | (simp; done) | (simp [*]; done)), H', ⟨by have := HK1.out; first | omega | exact Nat.le_refl _⟩, ⟨by (with_reducible repeat (first | apply Kd.R_alloc | apply Kd.R_drewN | apply Kd.R_drew)); exact HO_260000.out⟩, ⟨by (with_reducible repeat (first | refine blk_drewN ?_ _ | refine blk_drew ?_ | refine blk_alloc ?_ _)); exact BK258.out⟩, ⟨by (with_reducible repeat (first | refine blk_drewN ?_ _ | refine blk_drew ?_ | refine blk_alloc ?_ _)); exact BK259.out⟩, ⟨by repeat (first | (with_reducible first | exact HB.out | apply below_alloc | apply pw_below_drewN | apply below_drew1 | refine below_set ?_ GE258.out | refine below_set ?_ GE259.out) | exact HB.out)⟩⟩
          · replace c12 := Bool.eq_false_iff.mpr c12
            subst c12
            have H1 : (turncockref1_ReadDesc.j1 k1 a0 t262 t263 t267 t269 true x260000_1) = some (r1, r2) := by rw [if_neg (show ¬ (false = true) by decide)] at H; exact H
            clear H
            have H := H1
            clear H1
            have H' := Aside0.mk H
            clear H
            go_wp2
            go_meet
            case rel => exact ⟨_, (true), (by first | rfl | (simp; done) | (simp [*]; done)), H', ⟨by have := HK1.out; first | omega | exact Nat.le_refl _⟩, ⟨by (with_reducible repeat (first | apply Kd.R_alloc | apply Kd.R_drewN | apply Kd.R_drew)); exact HO_260000.out⟩, ⟨by (with_reducible repeat (first | refine blk_drewN ?_ _ | refine blk_drew ?_ | refine blk_alloc ?_ _)); exact BK258.out⟩, ⟨by (with_reducible repeat (first | refine blk_drewN ?_ _ | refine blk_drew ?_ | refine blk_alloc ?_ _)); exact BK259.out⟩, ⟨by repeat (first | (with_reducible first | exact HB.out | apply below_alloc | apply pw_below_drewN | apply below_drew1 | refine below_set ?_ GE258.out | refine below_set ?_ GE259.out) | exact HB.out)⟩⟩
        case rest =>
          clear HC9
          try clear c1
          try clear c2
          try clear p2
          try clear c4
          try clear c12
          try clear c13
          try clear p2
          obtain ⟨kq, x48_8, rfl, HA, HJ8, HO_260000, BK258, BK259, HB⟩ := hcut
          cases kq with
          | zero => exact absurd HA.out (by simp [turncockref1_ReadDesc.j1])
          | succ kj8 =>
            have H := HA.out
            clear HA
            simp only [turncockref1_ReadDesc.j1] at H
            by_cases c14 : x48_8 = true
            · subst c14
              have H1 : (some (([] : List (S47)), false)) = some (r1, r2) := by rw [if_pos rfl] at H; exact H
              clear H
              have H := H1
              clear H1
              simp only [Option.some.injEq, Prod.mk.injEq] at H
              obtain ⟨rfl, rfl⟩ := H
              have hnb15 := NB258_259.out
              have hnc15 := NB259_258.out
              have hcz16_0 : wc.cell? ⟨gb258, 0, none⟩ = some (.slice none 0 0) := (blk_cell BK258.out 0).trans rfl
              have hfz16_0 := blk_frozen BK258.out 0
              go_wp2
              refine bodyPost_ret (results_ct rfl _ _ gb258 24 #[.slice none 0 0] (0, 0) _ rfl (by (with_reducible repeat (first | refine blk_drewN ?_ _ | refine blk_drew ?_ | refine blk_alloc ?_ _)); refine blk_put (cs := #[.slice none 0 0]) ?_ 0 _ rfl; (with_reducible repeat (first | refine blk_drewN ?_ _ | refine blk_drew ?_ | refine blk_alloc ?_ _)); exact BK258.out) Tryd.underlying24 rfl (by kernel_rfl)) rfl ?_
              exact ⟨_, by first | rfl | (simp [errW_none, errW_some] <;> rfl) | (simp [*, errW_none, errW_some] <;> rfl), by first | exact Kd.R_nil _ _ _ _ _ | exact Kd.N_nil _ _ _ _ _ | exact Kd.V_nil _ _ _ _ _ | exact Kd.Q_nil _ _ _ _ _ | exact Kd.S_nil _ _ _ _ _, by repeat (first | (with_reducible first | exact HB.out | apply below_alloc | apply pw_below_drewN | apply below_drew1 | refine below_set ?_ GE258.out | refine below_set ?_ GE259.out) | exact HB.out)⟩
            · replace c14 := Bool.eq_false_iff.mpr c14
              subst c14
              have H1 : (if x260000_1.length < 4398046511104 then ((some (x260000_1 ++ [(⟨t267, t269⟩ : S47)] : List (S47))).bind fun y271 => (if (y271.length : Int) > 8 then (some (([] : List (S47)), false)) else (turncockref1_ReadDesc.l0 kj8 a0 t262 t263 y271))) else (none)) = some (r1, r2) := by rw [if_neg (show ¬ (false = true) by decide)] at H; exact H
              clear H
              have H := H1
              clear H1
              by_cases c17 : x260000_1.length < 4398046511104
              · rw [if_pos c17] at H
                have LMc17 := Aside0.mk c17
                clear c17
                obtain ⟨y271, hy271⟩ : ∃ y_ : List (S47), y_ = (x260000_1 ++ [(⟨t267, t269⟩ : S47)]) := ⟨_, rfl⟩
                replace H : (if (y271.length : Int) > 8 then (some (([] : List (S47)), false)) else (turncockref1_ReadDesc.l0 kj8 a0 t262 t263 y271)) = some (r1, r2) := by first | (rw [hy271]; with_reducible exact H) | (have H2_ := (Option.bind_some _ _).symm.trans H; rw [hy271]; with_reducible exact H2_) | (have H2_ := (Option.bind_some _ _).symm.trans H; with_reducible exact H2_) | with_reducible exact H | (rw [hy271]; exact H) | exact H
                have Ny271 := Aside0.mk hy271
                clear hy271
                by_cases c18 : (y271.length : Int) > 8
                · rw [if_pos c18] at H
                  have c18b0 : decide (8 < (y271.length : Int)) = true := decide_eq_true c18
                  have c18b1 : decide (8 < y271.length) = true := decide_eq_true (by omega)
                  clear c18
                  simp only [Option.some.injEq, Prod.mk.injEq] at H
                  obtain ⟨rfl, rfl⟩ := H
                  have hnb19 := NB259_258.out
                  have hnc19 := NB258_259.out
                  have hcz20_0 : wc.cell? ⟨gb259, 0, none⟩ = some (u260000) := (blk_cell BK259.out 0).trans rfl
                  have hfz20_0 := blk_frozen BK259.out 0
                  go_wp2_with (first | ((with_reducible refine gate_builtin (b := .append) (xs := #[.tmp 51, .tmp 55]) rfl ?_); at_builtin; refine Kd.R_append k47 (w0 := w) w.heap.size rfl (.tmp 51) (.tmp 55) 22 47 (.agg #[(.string ⟨#[]⟩), (.string ⟨#[]⟩)]) 32 rfl Tryd.underlying22 info47 rfl (by decide) (by omega) u260000 x260000_1 (⟨t267, t269⟩ : S47) [.string t267, .string t269] (fun _ => True) (fun _ => False) rfl rfl ?aP (fun _ hk => hk.elim) ?aF ?aO ?aB ?aS ?aL ?_; (case aP => exact k47_mkM _ _ _ (⟨t267, t269⟩ : S47)); (case aB => exact (by repeat (first | (with_reducible first | exact HB.out | apply below_alloc | apply pw_below_drewN | apply below_drew1 | refine below_set ?_ GE258.out | refine below_set ?_ GE259.out) | exact HB.out))); (case aF => exact (fun _ _ => trivial)); (case aO => exact (by (with_reducible repeat (first | apply Kd.R_alloc | apply Kd.R_drewN | apply Kd.R_drew)); exact HO_260000.out)); (case aS => exact (below_size (by repeat (first | (with_reducible first | exact HB.out | apply below_alloc | apply pw_below_drewN | apply below_drew1 | refine below_set ?_ GE258.out | refine below_set ?_ GE259.out) | exact HB.out)))); (case aL => have := LMc17.out; omega); intro v272 w21 ho hb hg hat; rw [← Ny271.out] at ho; have n0_ := Aside0.mk (blk_grown (g := gb258) (o := .cells #[.slice none 0 0] 24 (0, 0)) (by (with_reducible repeat (first | refine blk_drewN ?_ _ | refine blk_drew ?_ | refine blk_alloc ?_ _)); exact BK258.out) hg (Kd.R_ne HO_260000.out BK258.out (by decide))); have n1_ := Aside0.mk (blk_grown (g := gb259) (o := .cells #[u260000] 24 (0, 0)) (by (with_reducible repeat (first | refine blk_drewN ?_ _ | refine blk_drew ?_ | refine blk_alloc ?_ _)); exact BK259.out) hg (Kd.R_ne HO_260000.out BK259.out (by decide))); have n2_ := Aside0.mk (hb); have n3_ := Aside0.mk (ho); clear BK258; clear BK259; clear HB; clear HO_260000; have BK258 := n0_; have BK259 := n1_; have HB := n2_; have HO273 := n3_; clear n0_ n1_ n2_ n3_; clear ho hb hg hat; obtain ⟨Ao22, co22, eo22⟩ := Kd.R_slice HO273.out; subst eo22; have hcz23_0 : w21.cell? ⟨gb259, 0, none⟩ = some (u260000) := (blk_cell BK259.out 0).trans rfl; have hfz23_0 := blk_frozen BK259.out 0; have hcz24_0 : w21.cell? ⟨gb258, 0, none⟩ = some (.slice none 0 0) := (blk_cell BK258.out 0).trans rfl; have hfz24_0 := blk_frozen BK258.out 0))
                  refine bodyPost_ret (results_ct rfl _ _ gb258 24 #[.slice none 0 0] (0, 0) _ rfl (by (with_reducible repeat (first | refine blk_drewN ?_ _ | refine blk_drew ?_ | refine blk_alloc ?_ _)); refine blk_put (cs := #[.slice none 0 0]) ?_ 0 _ rfl; (with_reducible repeat (first | refine blk_drewN ?_ _ | refine blk_drew ?_ | refine blk_alloc ?_ _)); refine blk_far ?_ NB258_259.out _; (with_reducible repeat (first | refine blk_drewN ?_ _ | refine blk_drew ?_ | refine blk_alloc ?_ _)); exact BK258.out) Tryd.underlying24 rfl (by kernel_rfl)) rfl ?_
                  exact ⟨_, by first | rfl | (simp [errW_none, errW_some] <;> rfl) | (simp [*, errW_none, errW_some] <;> rfl), by first | exact Kd.R_nil _ _ _ _ _ | exact Kd.N_nil _ _ _ _ _ | exact Kd.V_nil _ _ _ _ _ | exact Kd.Q_nil _ _ _ _ _ | exact Kd.S_nil _ _ _ _ _, by repeat (first | (with_reducible first | exact HB.out | apply below_alloc | apply pw_below_drewN | apply below_drew1 | refine below_set ?_ GE258.out | refine below_set ?_ GE259.out) | exact HB.out)⟩
                · rw [if_neg c18] at H
                  have c18b0 : decide (8 < (y271.length : Int)) = false := decide_eq_false c18
                  have c18b1 : decide (8 < y271.length) = false := decide_eq_false (by omega)
                  clear c18
                  have H' := Aside0.mk H
                  clear H
                  have hnb25 := NB259_258.out
                  have hnc25 := NB258_259.out
                  have hcz26_0 : wc.cell? ⟨gb259, 0, none⟩ = some (u260000) := (blk_cell BK259.out 0).trans rfl
                  have hfz26_0 := blk_frozen BK259.out 0
                  go_wp2_with (first | ((with_reducible refine gate_builtin (b := .append) (xs := #[.tmp 51, .tmp 55]) rfl ?_); at_builtin; refine Kd.R_append k47 (w0 := w) w.heap.size rfl (.tmp 51) (.tmp 55) 22 47 (.agg #[(.string ⟨#[]⟩), (.string ⟨#[]⟩)]) 32 rfl Tryd.underlying22 info47 rfl (by decide) (by omega) u260000 x260000_1 (⟨t267, t269⟩ : S47) [.string t267, .string t269] (fun _ => True) (fun _ => False) rfl rfl ?aP (fun _ hk => hk.elim) ?aF ?aO ?aB ?aS ?aL ?_; (case aP => exact k47_mkM _ _ _ (⟨t267, t269⟩ : S47)); (case aB => exact (by repeat (first | (with_reducible first | exact HB.out | apply below_alloc | apply pw_below_drewN | apply below_drew1 | refine below_set ?_ GE258.out | refine below_set ?_ GE259.out) | exact HB.out))); (case aF => exact (fun _ _ => trivial)); (case aO => exact (by (with_reducible repeat (first | apply Kd.R_alloc | apply Kd.R_drewN | apply Kd.R_drew)); exact HO_260000.out)); (case aS => exact (below_size (by repeat (first | (with_reducible first | exact HB.out | apply below_alloc | apply pw_below_drewN | apply below_drew1 | refine below_set ?_ GE258.out | refine below_set ?_ GE259.out) | exact HB.out)))); (case aL => have := LMc17.out; omega); intro v272 w27 ho hb hg hat; rw [← Ny271.out] at ho; have n0_ := Aside0.mk (blk_grown (g := gb258) (o := .cells #[.slice none 0 0] 24 (0, 0)) (by (with_reducible repeat (first | refine blk_drewN ?_ _ | refine blk_drew ?_ | refine blk_alloc ?_ _)); exact BK258.out) hg (Kd.R_ne HO_260000.out BK258.out (by decide))); have n1_ := Aside0.mk (blk_grown (g := gb259) (o := .cells #[u260000] 24 (0, 0)) (by (with_reducible repeat (first | refine blk_drewN ?_ _ | refine blk_drew ?_ | refine blk_alloc ?_ _)); exact BK259.out) hg (Kd.R_ne HO_260000.out BK259.out (by decide))); have n2_ := Aside0.mk (hb); have n3_ := Aside0.mk (ho); clear BK258; clear BK259; clear HB; clear HO_260000; have BK258 := n0_; have BK259 := n1_; have HB := n2_; have HO273 := n3_; clear n0_ n1_ n2_ n3_; clear ho hb hg hat; obtain ⟨Ao28, co28, eo28⟩ := Kd.R_slice HO273.out; subst eo28; have hcz29_0 : w27.cell? ⟨gb259, 0, none⟩ = some (u260000) := (blk_cell BK259.out 0).trans rfl; have hfz29_0 := blk_frozen BK259.out 0))
                  go_roundg kj8
                  case measure => have := HK1.out; have := HJ8.out; omega
                  case rel => exact ⟨(t262), (t263), (y271), (.slice Ao28 y271.length co28), (by first | rfl | (simp; done) | (simp [*]; done)), (by first | rfl | (simp; done) | (simp [*]; done)), H', ⟨by have := HK1.out; have := HJ8.out; omega⟩, ⟨by (with_reducible repeat (first | apply Kd.R_alloc | apply Kd.R_drewN | apply Kd.R_drew)); exact Kd.R_mono (Kd.R_far (p := ⟨gb259, 0, none⟩) (Kd.R_types HO273.out BK259.out (by decide)) (fun _ hk => hk.2) (.slice Ao28 y271.length co28)) (fun _ hk => trivial)⟩, ⟨by (with_reducible repeat (first | refine blk_drewN ?_ _ | refine blk_drew ?_ | refine blk_alloc ?_ _)); refine blk_far ?_ NB258_259.out _; (with_reducible repeat (first | refine blk_drewN ?_ _ | refine blk_drew ?_ | refine blk_alloc ?_ _)); exact BK258.out⟩, ⟨by (with_reducible repeat (first | refine blk_drewN ?_ _ | refine blk_drew ?_ | refine blk_alloc ?_ _)); refine blk_put (cs := #[u260000]) ?_ 0 _ rfl; (with_reducible repeat (first | refine blk_drewN ?_ _ | refine blk_drew ?_ | refine blk_alloc ?_ _)); exact BK259.out⟩, ⟨by repeat (first | (with_reducible first | exact HB.out | apply below_alloc | apply pw_below_drewN | apply below_drew1 | refine below_set ?_ GE258.out | refine below_set ?_ GE259.out) | exact HB.out)⟩⟩
              · rw [if_neg c17] at H
                exact absurd H (by simp)
      · replace c4 := Bool.eq_false_iff.mpr c4
        subst c4
        have H1 : ((turncockref1_DescText.f k1 x260000_1).bind fun t260 => (if t260.toList = a0.toList then (if a0.toList = ([] : List UInt8) then (some (([] : List (S47)), false)) else (some (x260000_1, true))) else (some (([] : List (S47)), false)))) = some (r1, r2) := by rw [if_neg (show ¬ (false = true) by decide)] at H; exact H
        clear H
        have H := H1
        clear H1
        replace H := Option.bind_eq_some_iff.mp H
        obtain ⟨t260, A300, H⟩ := H
        replace H : (if t260.toList = a0.toList then (if a0.toList = ([] : List UInt8) then (some (([] : List (S47)), false)) else (some (x260000_1, true))) else (some (([] : List (S47)), false))) = some (r1, r2) := H
        have A30 := Aside0.mk A300
        clear A300
        by_cases c31 : t260.toList = a0.toList
        · rw [if_pos c31] at H
          have c31b0 : (t260.toList == a0.toList) = true := beq_iff_eq.mpr c31
          have c31b1 : (t260.toList != a0.toList) = false := bne_eq_false_iff_eq.mpr c31
          clear c31
          by_cases c32 : a0.toList = ([] : List UInt8)
          · rw [if_pos c32] at H
            have c32b0 : (a0.toList == ([] : List UInt8)) = true := beq_iff_eq.mpr c32
            have c32b1 : (a0.toList != ([] : List UInt8)) = false := bne_eq_false_iff_eq.mpr c32
            clear c32
            simp only [Option.some.injEq, Prod.mk.injEq] at H
            obtain ⟨rfl, rfl⟩ := H
            have hnb33 := NB259_258.out
            have hnc33 := NB258_259.out
            have hcz34_0 : wr.cell? ⟨gb259, 0, none⟩ = some (u260000) := (blk_cell BK259.out 0).trans rfl
            have hfz34_0 := blk_frozen BK259.out 0
            obtain ⟨Ao35, co35, eo35⟩ := Kd.R_slice HO_260000.out
            subst eo35
            go_wp2_with (first | ((with_reducible refine gate_callee (f := 18) rfl ?_); refine goesL_ (some 64) rfl rfl Tryd.func18 (by kernel_rfl) rfl #[.agg #[.slice Ao35 x260000_1.length co35]] rfl (by (try simp only [List.map_toArray, List.map_cons, List.map_nil]); first | done | rfl | (simp only [List.length_drop, List.length_take]; rfl)) ?_; (with_reducible refine (turncockref1_DescText.calls k1 _ _ x260000_1 t260 _ ?side1 ?side2 A30.out).mono ?_); (case side1 => repeat (first | exact (Kd.R_reads' HO_260000.out).2.2 | (with_reducible refine Kd.C_alloc ?_ _) | (with_reducible refine Kd.C_drewN ?_ _) | (with_reducible refine Kd.C_drew ?_))); (case side2 => exact (Kd.R_reads' HO_260000.out).2.1); rintro e w36 ⟨rfl, hb⟩; refine ⟨_, rfl, ?_⟩; have n0_ := Aside0.mk (Kd.R_below (by (with_reducible repeat (first | apply Kd.R_alloc | apply Kd.R_drewN | apply Kd.R_drew)); exact HO_260000.out) hb); have n1_ := Aside0.mk (blk_below (g := gb258) (o := .cells #[.slice none 0 0] 24 (0, 0)) (by (with_reducible repeat (first | refine blk_drewN ?_ _ | refine blk_drew ?_ | refine blk_alloc ?_ _)); exact BK258.out) hb); have n2_ := Aside0.mk (blk_below (g := gb259) (o := .cells #[.slice Ao35 x260000_1.length co35] 24 (0, 0)) (by (with_reducible repeat (first | refine blk_drewN ?_ _ | refine blk_drew ?_ | refine blk_alloc ?_ _)); exact BK259.out) hb); have n3_ := Aside0.mk (below_step (by repeat (first | (with_reducible first | exact HB.out | apply below_alloc | apply pw_below_drewN | apply below_drew1 | refine below_set ?_ GE258.out | refine below_set ?_ GE259.out) | exact HB.out)) hb); clear HO_260000; clear BK258; clear BK259; clear HB; have HO_260000 := n0_; have BK258 := n1_; have BK259 := n2_; have HB := n3_; clear n0_ n1_ n2_ n3_; (try clear hb); (try clear hb2); (try clear hk); (try clear hi); have hcz37_0 : w36.cell? ⟨gb258, 0, none⟩ = some (.slice none 0 0) := (blk_cell BK258.out 0).trans rfl; have hfz37_0 := blk_frozen BK258.out 0))
            refine bodyPost_ret (results_ct rfl _ _ gb258 24 #[.slice none 0 0] (0, 0) _ rfl (by (with_reducible repeat (first | refine blk_drewN ?_ _ | refine blk_drew ?_ | refine blk_alloc ?_ _)); refine blk_put (cs := #[.slice none 0 0]) ?_ 0 _ rfl; (with_reducible repeat (first | refine blk_drewN ?_ _ | refine blk_drew ?_ | refine blk_alloc ?_ _)); exact BK258.out) Tryd.underlying24 rfl (by kernel_rfl)) rfl ?_
            exact ⟨_, by first | rfl | (simp [errW_none, errW_some] <;> rfl) | (simp [*, errW_none, errW_some] <;> rfl), by first | exact Kd.R_nil _ _ _ _ _ | exact Kd.N_nil _ _ _ _ _ | exact Kd.V_nil _ _ _ _ _ | exact Kd.Q_nil _ _ _ _ _ | exact Kd.S_nil _ _ _ _ _, by repeat (first | (with_reducible first | exact HB.out | apply below_alloc | apply pw_below_drewN | apply below_drew1 | refine below_set ?_ GE258.out | refine below_set ?_ GE259.out) | exact HB.out)⟩
          · rw [if_neg c32] at H
            have c32b0 : (a0.toList == ([] : List UInt8)) = false := beq_eq_false_iff_ne.mpr c32
            have c32b1 : (a0.toList != ([] : List UInt8)) = true := bne_iff_ne.mpr c32
            simp only [Option.some.injEq, Prod.mk.injEq] at H
            obtain ⟨rfl, rfl⟩ := H
            have hnb38 := NB259_258.out
            have hnc38 := NB258_259.out
            have hcz39_0 : wr.cell? ⟨gb259, 0, none⟩ = some (u260000) := (blk_cell BK259.out 0).trans rfl
            have hfz39_0 := blk_frozen BK259.out 0
            obtain ⟨Ao40, co40, eo40⟩ := Kd.R_slice HO_260000.out
            subst eo40
            go_wp2_with (first | ((with_reducible refine gate_callee (f := 18) rfl ?_); refine goesL_ (some 64) rfl rfl Tryd.func18 (by kernel_rfl) rfl #[.agg #[.slice Ao40 x260000_1.length co40]] rfl (by (try simp only [List.map_toArray, List.map_cons, List.map_nil]); first | done | rfl | (simp only [List.length_drop, List.length_take]; rfl)) ?_; (with_reducible refine (turncockref1_DescText.calls k1 _ _ x260000_1 t260 _ ?side1 ?side2 A30.out).mono ?_); (case side1 => repeat (first | exact (Kd.R_reads' HO_260000.out).2.2 | (with_reducible refine Kd.C_alloc ?_ _) | (with_reducible refine Kd.C_drewN ?_ _) | (with_reducible refine Kd.C_drew ?_))); (case side2 => exact (Kd.R_reads' HO_260000.out).2.1); rintro e w41 ⟨rfl, hb⟩; refine ⟨_, rfl, ?_⟩; have n0_ := Aside0.mk (Kd.R_below (by (with_reducible repeat (first | apply Kd.R_alloc | apply Kd.R_drewN | apply Kd.R_drew)); exact HO_260000.out) hb); have n1_ := Aside0.mk (blk_below (g := gb258) (o := .cells #[.slice none 0 0] 24 (0, 0)) (by (with_reducible repeat (first | refine blk_drewN ?_ _ | refine blk_drew ?_ | refine blk_alloc ?_ _)); exact BK258.out) hb); have n2_ := Aside0.mk (blk_below (g := gb259) (o := .cells #[.slice Ao40 x260000_1.length co40] 24 (0, 0)) (by (with_reducible repeat (first | refine blk_drewN ?_ _ | refine blk_drew ?_ | refine blk_alloc ?_ _)); exact BK259.out) hb); have n3_ := Aside0.mk (below_step (by repeat (first | (with_reducible first | exact HB.out | apply below_alloc | apply pw_below_drewN | apply below_drew1 | refine below_set ?_ GE258.out | refine below_set ?_ GE259.out) | exact HB.out)) hb); clear HO_260000; clear BK258; clear BK259; clear HB; have HO_260000 := n0_; have BK258 := n1_; have BK259 := n2_; have HB := n3_; clear n0_ n1_ n2_ n3_; (try clear hb); (try clear hb2); (try clear hk); (try clear hi); have hcz42_0 : w41.cell? ⟨gb259, 0, none⟩ = some (.slice Ao40 x260000_1.length co40) := (blk_cell BK259.out 0).trans rfl; have hfz42_0 := blk_frozen BK259.out 0; have hcz43_0 : w41.cell? ⟨gb258, 0, none⟩ = some (.slice none 0 0) := (blk_cell BK258.out 0).trans rfl; have hfz43_0 := blk_frozen BK258.out 0))
            refine bodyPost_ret (results_ct rfl _ _ gb258 24 #[.slice Ao40 x260000_1.length co40] (0, 0) _ rfl (by (with_reducible repeat (first | refine blk_drewN ?_ _ | refine blk_drew ?_ | refine blk_alloc ?_ _)); refine blk_put (cs := #[.slice none 0 0]) ?_ 0 _ rfl; (with_reducible repeat (first | refine blk_drewN ?_ _ | refine blk_drew ?_ | refine blk_alloc ?_ _)); exact BK258.out) Tryd.underlying24 rfl (by kernel_rfl)) rfl ?_
            exact ⟨_, by first | rfl | (simp [errW_none, errW_some] <;> rfl) | (simp [*, errW_none, errW_some] <;> rfl), by (with_reducible repeat (first | apply Kd.R_alloc | apply Kd.R_drewN | apply Kd.R_drew)); exact Kd.R_mono (Kd.R_far (p := ⟨gb258, 0, none⟩) (Kd.R_types HO_260000.out BK258.out (by decide)) (fun _ hk => hk.2) (.slice Ao40 x260000_1.length co40)) (fun _ hk => trivial), by repeat (first | (with_reducible first | exact HB.out | apply below_alloc | apply pw_below_drewN | apply below_drew1 | refine below_set ?_ GE258.out | refine below_set ?_ GE259.out) | exact HB.out)⟩
        · rw [if_neg c31] at H
          have c31b0 : (t260.toList == a0.toList) = false := beq_eq_false_iff_ne.mpr c31
          have c31b1 : (t260.toList != a0.toList) = true := bne_iff_ne.mpr c31
          simp only [Option.some.injEq, Prod.mk.injEq] at H
          obtain ⟨rfl, rfl⟩ := H
          have hnb44 := NB259_258.out
          have hnc44 := NB258_259.out
          have hcz45_0 : wr.cell? ⟨gb259, 0, none⟩ = some (u260000) := (blk_cell BK259.out 0).trans rfl
          have hfz45_0 := blk_frozen BK259.out 0
          obtain ⟨Ao46, co46, eo46⟩ := Kd.R_slice HO_260000.out
          subst eo46
          go_wp2_with (first | ((with_reducible refine gate_callee (f := 18) rfl ?_); refine goesL_ (some 64) rfl rfl Tryd.func18 (by kernel_rfl) rfl #[.agg #[.slice Ao46 x260000_1.length co46]] rfl (by (try simp only [List.map_toArray, List.map_cons, List.map_nil]); first | done | rfl | (simp only [List.length_drop, List.length_take]; rfl)) ?_; (with_reducible refine (turncockref1_DescText.calls k1 _ _ x260000_1 t260 _ ?side1 ?side2 A30.out).mono ?_); (case side1 => repeat (first | exact (Kd.R_reads' HO_260000.out).2.2 | (with_reducible refine Kd.C_alloc ?_ _) | (with_reducible refine Kd.C_drewN ?_ _) | (with_reducible refine Kd.C_drew ?_))); (case side2 => exact (Kd.R_reads' HO_260000.out).2.1); rintro e w47 ⟨rfl, hb⟩; refine ⟨_, rfl, ?_⟩; have n0_ := Aside0.mk (Kd.R_below (by (with_reducible repeat (first | apply Kd.R_alloc | apply Kd.R_drewN | apply Kd.R_drew)); exact HO_260000.out) hb); have n1_ := Aside0.mk (blk_below (g := gb258) (o := .cells #[.slice none 0 0] 24 (0, 0)) (by (with_reducible repeat (first | refine blk_drewN ?_ _ | refine blk_drew ?_ | refine blk_alloc ?_ _)); exact BK258.out) hb); have n2_ := Aside0.mk (blk_below (g := gb259) (o := .cells #[.slice Ao46 x260000_1.length co46] 24 (0, 0)) (by (with_reducible repeat (first | refine blk_drewN ?_ _ | refine blk_drew ?_ | refine blk_alloc ?_ _)); exact BK259.out) hb); have n3_ := Aside0.mk (below_step (by repeat (first | (with_reducible first | exact HB.out | apply below_alloc | apply pw_below_drewN | apply below_drew1 | refine below_set ?_ GE258.out | refine below_set ?_ GE259.out) | exact HB.out)) hb); clear HO_260000; clear BK258; clear BK259; clear HB; have HO_260000 := n0_; have BK258 := n1_; have BK259 := n2_; have HB := n3_; clear n0_ n1_ n2_ n3_; (try clear hb); (try clear hb2); (try clear hk); (try clear hi); have hcz48_0 : w47.cell? ⟨gb258, 0, none⟩ = some (.slice none 0 0) := (blk_cell BK258.out 0).trans rfl; have hfz48_0 := blk_frozen BK258.out 0))
          refine bodyPost_ret (results_ct rfl _ _ gb258 24 #[.slice none 0 0] (0, 0) _ rfl (by (with_reducible repeat (first | refine blk_drewN ?_ _ | refine blk_drew ?_ | refine blk_alloc ?_ _)); refine blk_put (cs := #[.slice none 0 0]) ?_ 0 _ rfl; (with_reducible repeat (first | refine blk_drewN ?_ _ | refine blk_drew ?_ | refine blk_alloc ?_ _)); exact BK258.out) Tryd.underlying24 rfl (by kernel_rfl)) rfl ?_
          exact ⟨_, by first | rfl | (simp [errW_none, errW_some] <;> rfl) | (simp [*, errW_none, errW_some] <;> rfl), by first | exact Kd.R_nil _ _ _ _ _ | exact Kd.N_nil _ _ _ _ _ | exact Kd.V_nil _ _ _ _ _ | exact Kd.Q_nil _ _ _ _ _ | exact Kd.S_nil _ _ _ _ _, by repeat (first | (with_reducible first | exact HB.out | apply below_alloc | apply pw_below_drewN | apply below_drew1 | refine below_set ?_ GE258.out | refine below_set ?_ GE259.out) | exact HB.out)⟩

end Go.Proofs.YtpemmaffbcbcjaaDoor.PKeyParses
