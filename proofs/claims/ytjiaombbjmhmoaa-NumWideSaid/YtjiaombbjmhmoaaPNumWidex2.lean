-- WRITTEN BY THIS SESSION'S mprint.py upon the print: some functions are proved by hand
import Derived.Test.YtjiaombbjmhmoaaPNumWidex0
import Derived.Test.YtjiaombbjmhmoaaPNumWidex1
namespace Go.Proofs.Ytjiaombbjmhmoaa.PNumWide
open Go.RowKit Go.Proofs.YtjiaombbjmhmoaaW.PrintWords Go.Proofs.YtjiaombbjmhmoaaW.PrintLast Go.Proofs.YtjiaombbjmhmoaaW.PrintMore
attribute [local go_sem] max2_int min2_int max_two min_two max_three min_three max_four min_four   -- for this text's walks alone
set_option linter.unusedVariables false
set_option linter.unusedSimpArgs false

/-! ### turncocklaw1_NumWide: function 12 -/
mutual
def turncocklaw1_NumWide.j0 : Nat → Int → Int → Int → Int → Bool → Option (Bool)
  | 0, _, _, _, _, _ => none
  | k + 1, x0, x1, x5, x6, x27 => if x27 = true then (some false) else ((bits_Mul64.f (IntKind.u64.wrap (x5)) (IntKind.u64.wrap (x6))).bind fun bt134 => (if bt134.1 = 0 then (turncocklaw1_NumWide.j1 k x0 x1 x5 x6 bt134.2 4611686018427387904 (decide (bt134.2 < 4611686018427387904))) else (turncocklaw1_NumWide.j1 k x0 x1 x5 x6 bt134.2 4611686018427387904 false)))
def turncocklaw1_NumWide.j1 : Nat → Int → Int → Int → Int → Int → Int → Bool → Option (Bool)
  | 0, _, _, _, _, _, _, _ => none
  | k + 1, x0, x1, x5, x6, x8, x9, x42 => if x42 = true then (turncocklaw1_NumWide.j2 k x0 x1 x5 x6 x8) else (turncocklaw1_NumWide.j2 k x0 x1 x5 x6 x9)
def turncocklaw1_NumWide.j2 : Nat → Int → Int → Int → Int → Int → Option (Bool)
  | 0, _, _, _, _, _ => none
  | k + 1, x0, x1, x5, x6, x9 => (num_Mul.f x0 x1).bind fun t136 => (if (IntKind.u64.wrap (t136)) = x9 then ((num_Add.f x0 x1).bind fun t137 => (if (IntKind.u64.wrap (t137)) = (mn (IntKind.u64.wrap ((IntKind.u64.wrap (x5)) + (IntKind.u64.wrap (x6)))) 4611686018427387904) then ((num_Sub.f x0 x1).bind fun t138 => ((num_Add.f t138 (mn x5 x6)).bind fun t139 => (if t139 = x5 then ((turncocklaw1_awake.f k).bind fun t140 => (some t140)) else (some false)))) else (some false))) else (some false))
end
def turncocklaw1_NumWide.f (k : Nat) (a0 : Int) (a1 : Int) : Option (Bool) := (num_Hold.f a0).bind fun t132 => ((num_Hold.f a1).bind fun t133 => (if t132 < 0 then (turncocklaw1_NumWide.j0 k a0 a1 t132 t133 true) else (if t132 > 4611686018427387904 then (turncocklaw1_NumWide.j0 k a0 a1 t132 t133 true) else (if t133 < 0 then (turncocklaw1_NumWide.j0 k a0 a1 t132 t133 true) else (turncocklaw1_NumWide.j0 k a0 a1 t132 t133 (decide (t133 > 4611686018427387904)))))))
theorem turncocklaw1_NumWide.mono_l : ∀ k, (∀ y0 y1 y2 y3 y4, LeO (turncocklaw1_NumWide.j0 k y0 y1 y2 y3 y4) (turncocklaw1_NumWide.j0 (k + 1) y0 y1 y2 y3 y4)) ∧ (∀ y0 y1 y2 y3 y4 y5 y6, LeO (turncocklaw1_NumWide.j1 k y0 y1 y2 y3 y4 y5 y6) (turncocklaw1_NumWide.j1 (k + 1) y0 y1 y2 y3 y4 y5 y6)) ∧ (∀ y0 y1 y2 y3 y4, LeO (turncocklaw1_NumWide.j2 k y0 y1 y2 y3 y4) (turncocklaw1_NumWide.j2 (k + 1) y0 y1 y2 y3 y4))
  | 0 => ⟨fun _ _ _ _ _ r h => by simp [turncocklaw1_NumWide.j0] at h, fun _ _ _ _ _ _ _ r h => by simp [turncocklaw1_NumWide.j1] at h, fun _ _ _ _ _ r h => by simp [turncocklaw1_NumWide.j2] at h⟩
  | k + 1 => by
    obtain ⟨ih0, ih1, ih2⟩ := turncocklaw1_NumWide.mono_l k
    refine ⟨?_, ?_, ?_⟩
    · intro y0 y1 y2 y3 y4
      unfold turncocklaw1_NumWide.j0
      repeat' first
      | (with_reducible exact ih0 _ _ _ _ _)
      | (with_reducible exact ih1 _ _ _ _ _ _ _)
      | (with_reducible exact ih2 _ _ _ _ _)
      | (with_reducible exact turncocklaw1_awake.mono _)
      | (with_reducible exact LeO.refl _)
      | (with_reducible exact LeO.none _)
      | (with_reducible refine LeO.ite ?_ ?_)
      | (with_reducible refine LeO.bind ?_ (fun _ => ?_))
      | exact ih0 _ _ _ _ _
      | exact ih1 _ _ _ _ _ _ _
      | exact ih2 _ _ _ _ _
      | exact turncocklaw1_awake.mono _
      | exact LeO.none _
      | refine LeO.ite ?_ ?_
      | refine LeO.bind ?_ (fun _ => ?_)
    · intro y0 y1 y2 y3 y4 y5 y6
      unfold turncocklaw1_NumWide.j1
      repeat' first
      | (with_reducible exact ih0 _ _ _ _ _)
      | (with_reducible exact ih1 _ _ _ _ _ _ _)
      | (with_reducible exact ih2 _ _ _ _ _)
      | (with_reducible exact turncocklaw1_awake.mono _)
      | (with_reducible exact LeO.refl _)
      | (with_reducible exact LeO.none _)
      | (with_reducible refine LeO.ite ?_ ?_)
      | (with_reducible refine LeO.bind ?_ (fun _ => ?_))
      | exact ih0 _ _ _ _ _
      | exact ih1 _ _ _ _ _ _ _
      | exact ih2 _ _ _ _ _
      | exact turncocklaw1_awake.mono _
      | exact LeO.none _
      | refine LeO.ite ?_ ?_
      | refine LeO.bind ?_ (fun _ => ?_)
    · intro y0 y1 y2 y3 y4
      unfold turncocklaw1_NumWide.j2
      repeat' first
      | (with_reducible exact ih0 _ _ _ _ _)
      | (with_reducible exact ih1 _ _ _ _ _ _ _)
      | (with_reducible exact ih2 _ _ _ _ _)
      | (with_reducible exact turncocklaw1_awake.mono _)
      | (with_reducible exact LeO.refl _)
      | (with_reducible exact LeO.none _)
      | (with_reducible refine LeO.ite ?_ ?_)
      | (with_reducible refine LeO.bind ?_ (fun _ => ?_))
      | exact ih0 _ _ _ _ _
      | exact ih1 _ _ _ _ _ _ _
      | exact ih2 _ _ _ _ _
      | exact turncocklaw1_awake.mono _
      | exact LeO.none _
      | refine LeO.ite ?_ ?_
      | refine LeO.bind ?_ (fun _ => ?_)
theorem turncocklaw1_NumWide.mono : ∀ a0 a1 k, LeO (turncocklaw1_NumWide.f k a0 a1) (turncocklaw1_NumWide.f (k + 1) a0 a1) := by
  intro a0 a1 k
  obtain ⟨ih0, ih1, ih2⟩ := turncocklaw1_NumWide.mono_l k
  unfold turncocklaw1_NumWide.f
  repeat' first
      | (with_reducible exact ih0 _ _ _ _ _)
      | (with_reducible exact ih1 _ _ _ _ _ _ _)
      | (with_reducible exact ih2 _ _ _ _ _)
      | (with_reducible exact turncocklaw1_awake.mono _)
      | (with_reducible exact LeO.refl _)
      | (with_reducible exact LeO.none _)
      | (with_reducible refine LeO.ite ?_ ?_)
      | (with_reducible refine LeO.bind ?_ (fun _ => ?_))
      | exact ih0 _ _ _ _ _
      | exact ih1 _ _ _ _ _ _ _
      | exact ih2 _ _ _ _ _
      | exact turncocklaw1_awake.mono _
      | exact LeO.none _
      | refine LeO.ite ?_ ?_
      | refine LeO.bind ?_ (fun _ => ?_)
set_option maxHeartbeats 8000000 in
set_option maxRecDepth 100000 in
theorem turncocklaw1_NumWide.calls (k : Nat) (a0 : Int) (a1 : Int) (r : Bool) (w : World) (h : turncocklaw1_NumWide.f k a0 a1 = some r) :
    Calls Try.prog 12 #[.int .i64 a0, .int .i64 a1] w fun e w' => e = .returned (.bool r) ∧ Below w.heap.size w w' := by
  have HB := Aside0.mk (Below.refl w.heap.size w)
  have H : ((num_Hold.f a0).bind fun t132 => ((num_Hold.f a1).bind fun t133 => (if t132 < 0 then (turncocklaw1_NumWide.j0 k a0 a1 t132 t133 true) else (if t132 > 4611686018427387904 then (turncocklaw1_NumWide.j0 k a0 a1 t132 t133 true) else (if t133 < 0 then (turncocklaw1_NumWide.j0 k a0 a1 t132 t133 true) else (turncocklaw1_NumWide.j0 k a0 a1 t132 t133 (decide (t133 > 4611686018427387904)))))))) = some r := h
  clear h
  replace H := Option.bind_eq_some_iff.mp H
  obtain ⟨t132, A30, H⟩ := H
  replace H : ((num_Hold.f a1).bind fun t133 => (if t132 < 0 then (turncocklaw1_NumWide.j0 k a0 a1 t132 t133 true) else (if t132 > 4611686018427387904 then (turncocklaw1_NumWide.j0 k a0 a1 t132 t133 true) else (if t133 < 0 then (turncocklaw1_NumWide.j0 k a0 a1 t132 t133 true) else (turncocklaw1_NumWide.j0 k a0 a1 t132 t133 (decide (t133 > 4611686018427387904))))))) = some r := H
  have A3 := Aside0.mk A30
  clear A30
  replace H := Option.bind_eq_some_iff.mp H
  obtain ⟨t133, A40, H⟩ := H
  replace H : (if t132 < 0 then (turncocklaw1_NumWide.j0 k a0 a1 t132 t133 true) else (if t132 > 4611686018427387904 then (turncocklaw1_NumWide.j0 k a0 a1 t132 t133 true) else (if t133 < 0 then (turncocklaw1_NumWide.j0 k a0 a1 t132 t133 true) else (turncocklaw1_NumWide.j0 k a0 a1 t132 t133 (decide (t133 > 4611686018427387904)))))) = some r := H
  have A4 := Aside0.mk A40
  clear A40
  have HC5 := Aside0.mk H
  clear H
  go_enter Try.func12, Try.ntmps12
  go_upto_region 2 with (first | ((with_reducible refine gate_callee (f := 38) rfl ?_); refine goesL_ (some 11) rfl rfl Try.func38 (by kernel_rfl) rfl #[.int .i64 a0] rfl (by (try simp only [List.map_toArray, List.map_cons, List.map_nil]); first | done | rfl | (simp only [List.length_drop, List.length_take]; rfl)) ?_; (with_reducible refine (num_Hold.calls a0 t132 _ A3.out).mono ?_); rintro e w6 ⟨rfl, hb⟩; refine ⟨_, rfl, ?_⟩; have n0_ := Aside0.mk (below_step (by repeat (first | (with_reducible first | exact HB.out | apply below_alloc | apply pw_below_drewN | apply below_drew1) | exact HB.out)) hb); clear HB; have HB := n0_; clear n0_; (try clear hb); (try clear hb2); (try clear hk); (try clear hi)) | ((with_reducible refine gate_callee (f := 38) rfl ?_); refine goesL_ (some 13) rfl rfl Try.func38 (by kernel_rfl) rfl #[.int .i64 a1] rfl (by (try simp only [List.map_toArray, List.map_cons, List.map_nil]); first | done | rfl | (simp only [List.length_drop, List.length_take]; rfl)) ?_; (with_reducible refine (num_Hold.calls a1 t133 _ A4.out).mono ?_); rintro e w7 ⟨rfl, hb⟩; refine ⟨_, rfl, ?_⟩; have n0_ := Aside0.mk (below_step (by repeat (first | (with_reducible first | exact HB.out | apply below_alloc | apply pw_below_drewN | apply below_drew1) | exact HB.out)) hb); clear HB; have HB := n0_; clear n0_; (try clear hb); (try clear hb2); (try clear hk); (try clear hi)))
  (try simp only [Act.put, List.setIfInBounds_toArray, List.set_cons_zero, List.set_cons_succ])
  go_cut [27] (fun v27 wc => ∃ (kq : Nat) (x27_4 : Bool), v27 = .bool x27_4 ∧ Aside0 (turncocklaw1_NumWide.j0 kq a0 a1 t132 t133 x27_4 = some r) ∧ Aside0 (kq ≤ k) ∧ Aside0 (Below w.heap.size w wc))
  case first =>
    have H := HC5.out
    clear HC5
    by_cases c8 : t132 < 0
    · rw [if_pos c8] at H
      have c8b0 : decide (t132 < 0) = true := decide_eq_true c8
      clear c8
      (first | rw [c8b0] | (simp only [i64_w, i32_w]; rw [c8b0]) | skip)
      have H' := Aside0.mk H
      clear H
      go_wp2
      go_meet
      case rel => exact ⟨_, (true), (by first | rfl | (simp; done) | (simp [*]; done)), H', ⟨by first | omega | exact Nat.le_refl _⟩, ⟨by repeat (first | (with_reducible first | exact HB.out | apply below_alloc | apply pw_below_drewN | apply below_drew1) | exact HB.out)⟩⟩
    · rw [if_neg c8] at H
      have c8b0 : decide (t132 < 0) = false := decide_eq_false c8
      clear c8
      (first | rw [c8b0] | (simp only [i64_w, i32_w]; rw [c8b0]) | skip)
      by_cases c9 : t132 > 4611686018427387904
      · rw [if_pos c9] at H
        have c9b0 : decide (4611686018427387904 < t132) = true := decide_eq_true c9
        clear c9
        have H' := Aside0.mk H
        clear H
        go_wp2
        go_meet
        case rel => exact ⟨_, (true), (by first | rfl | (simp; done) | (simp [*]; done)), H', ⟨by first | omega | exact Nat.le_refl _⟩, ⟨by repeat (first | (with_reducible first | exact HB.out | apply below_alloc | apply pw_below_drewN | apply below_drew1) | exact HB.out)⟩⟩
      · rw [if_neg c9] at H
        have c9b0 : decide (4611686018427387904 < t132) = false := decide_eq_false c9
        clear c9
        by_cases c10 : t133 < 0
        · rw [if_pos c10] at H
          have c10b0 : decide (t133 < 0) = true := decide_eq_true c10
          clear c10
          have H' := Aside0.mk H
          clear H
          go_wp2
          go_meet
          case rel => exact ⟨_, (true), (by first | rfl | (simp; done) | (simp [*]; done)), H', ⟨by first | omega | exact Nat.le_refl _⟩, ⟨by repeat (first | (with_reducible first | exact HB.out | apply below_alloc | apply pw_below_drewN | apply below_drew1) | exact HB.out)⟩⟩
        · rw [if_neg c10] at H
          have c10b0 : decide (t133 < 0) = false := decide_eq_false c10
          clear c10
          have H' := Aside0.mk H
          clear H
          go_wp2
          go_meet
          case rel => exact ⟨_, (decide (t133 > 4611686018427387904)), (by first | rfl | (simp; done) | (simp [*]; done)), H', ⟨by first | omega | exact Nat.le_refl _⟩, ⟨by repeat (first | (with_reducible first | exact HB.out | apply below_alloc | apply pw_below_drewN | apply below_drew1) | exact HB.out)⟩⟩
  case rest =>
    clear HC5
    try clear c1
    try clear p2
    try clear c3
    try clear c8
    try clear c8b0
    try clear c9
    try clear c9b0
    try clear c10
    try clear c10b0
    obtain ⟨kq, x27_4, rfl, HA, HJ4, HB⟩ := hcut
    cases kq with
    | zero => exact absurd HA.out (by simp [turncocklaw1_NumWide.j0])
    | succ kj4 =>
      have H := HA.out
      clear HA
      simp only [turncocklaw1_NumWide.j0] at H
      by_cases c11 : x27_4 = true
      · subst c11
        have H1 : (some false) = some r := by rw [if_pos rfl] at H; exact H
        clear H
        have H := H1
        clear H1
        obtain rfl := Option.some.inj H
        go_wp2
        go_ret
        exact ⟨by first | rfl | (simp [errW_none, errW_some] <;> rfl) | (simp [*, errW_none, errW_some] <;> rfl), by repeat (first | (with_reducible first | exact HB.out | apply below_alloc | apply pw_below_drewN | apply below_drew1) | exact HB.out)⟩
      · replace c11 := Bool.eq_false_iff.mpr c11
        subst c11
        have H1 : ((bits_Mul64.f (IntKind.u64.wrap (t132)) (IntKind.u64.wrap (t133))).bind fun bt134 => (if bt134.1 = 0 then (turncocklaw1_NumWide.j1 kj4 a0 a1 t132 t133 bt134.2 4611686018427387904 (decide (bt134.2 < 4611686018427387904))) else (turncocklaw1_NumWide.j1 kj4 a0 a1 t132 t133 bt134.2 4611686018427387904 false))) = some r := by rw [if_neg (show ¬ (false = true) by decide)] at H; exact H
        clear H
        have H := H1
        clear H1
        replace H := Option.bind_eq_some_iff.mp H
        obtain ⟨⟨t134, t135⟩, A120, H⟩ := H
        replace H : (if t134 = 0 then (turncocklaw1_NumWide.j1 kj4 a0 a1 t132 t133 t135 4611686018427387904 (decide (t135 < 4611686018427387904))) else (turncocklaw1_NumWide.j1 kj4 a0 a1 t132 t133 t135 4611686018427387904 false)) = some r := H
        have A12 := Aside0.mk A120
        clear A120
        have HC13 := Aside0.mk H
        clear H
        go_upto_region 6 with (first | ((with_reducible refine gate_callee (f := 50) rfl ?_); refine goesL_ (some 33) rfl rfl Try.func50 (by kernel_rfl) rfl #[.int .u64 (IntKind.u64.wrap (t132)), .int .u64 (IntKind.u64.wrap (t133))] rfl (by (try simp only [List.map_toArray, List.map_cons, List.map_nil]); first | done | rfl | (simp only [List.length_drop, List.length_take]; rfl)) ?_; (with_reducible refine (bits_Mul64.calls (IntKind.u64.wrap (t132)) (IntKind.u64.wrap (t133)) t134 t135 _ A12.out).mono ?_); rintro e w' ⟨rfl, ⟨nd, rfl⟩⟩; refine ⟨_, rfl, ?_⟩))
        (try simp only [Act.put, List.setIfInBounds_toArray, List.set_cons_zero, List.set_cons_succ])
        go_cut [42] (fun v42 wc => ∃ (kq : Nat) (x42_12 : Bool), v42 = .bool x42_12 ∧ Aside0 (turncocklaw1_NumWide.j1 kq a0 a1 t132 t133 t135 4611686018427387904 x42_12 = some r) ∧ Aside0 (kq ≤ kj4) ∧ Aside0 (Below w.heap.size w wc))
        case first =>
          have H := HC13.out
          clear HC13
          by_cases c14 : t134 = 0
          · rw [if_pos c14] at H
            have c14b0 : (t134 == 0) = true := beq_iff_eq.mpr c14
            have c14b1 : (t134 != 0) = false := bne_eq_false_iff_eq.mpr c14
            clear c14
            (first | rw [c14b0] | (simp only [i64_w, i32_w]; rw [c14b0]) | skip)
            have H' := Aside0.mk H
            clear H
            go_wp2
            go_meet
            case rel => exact ⟨_, (decide (t135 < 4611686018427387904)), (by first | rfl | (simp; done) | (simp [*]; done)), H', ⟨by have := HJ4.out; first | omega | exact Nat.le_refl _⟩, ⟨by repeat (first | (with_reducible first | exact HB.out | apply below_alloc | apply pw_below_drewN | apply below_drew1) | exact HB.out)⟩⟩
          · rw [if_neg c14] at H
            have c14b0 : (t134 == 0) = false := beq_eq_false_iff_ne.mpr c14
            have c14b1 : (t134 != 0) = true := bne_iff_ne.mpr c14
            (first | rw [c14b0] | (simp only [i64_w, i32_w]; rw [c14b0]) | skip)
            have H' := Aside0.mk H
            clear H
            go_wp2
            go_meet
            case rel => exact ⟨_, (false), (by first | rfl | (simp; done) | (simp [*]; done)), H', ⟨by have := HJ4.out; first | omega | exact Nat.le_refl _⟩, ⟨by repeat (first | (with_reducible first | exact HB.out | apply below_alloc | apply pw_below_drewN | apply below_drew1) | exact HB.out)⟩⟩
        case rest =>
          clear HC13
          try clear c1
          try clear p2
          try clear c3
          try clear c5
          try clear c8
          try clear c8b0
          try clear c9
          try clear c9b0
          try clear c10
          try clear c10b0
          try clear c11
          try clear c12
          try clear c14
          try clear c14b0
          try clear c14b1
          try clear p2
          obtain ⟨kq, x42_12, rfl, HA, HJ12, HB⟩ := hcut
          cases kq with
          | zero => exact absurd HA.out (by simp [turncocklaw1_NumWide.j1])
          | succ kj12 =>
            have H := HA.out
            clear HA
            simp only [turncocklaw1_NumWide.j1] at H
            have HC15 := Aside0.mk H
            clear H
            go_upto_if 42 with (fail)
            go_cut [9] (fun v9 wc => ∃ (kq : Nat) (x9_14 : Int), v9 = .int .u64 x9_14 ∧ Aside0 (turncocklaw1_NumWide.j2 kq a0 a1 t132 t133 x9_14 = some r) ∧ Aside0 (kq ≤ kj12) ∧ Aside0 (Below w.heap.size w wc))
            case first =>
              have H := HC15.out
              clear HC15
              by_cases c16 : x42_12 = true
              · subst c16
                have H1 : (turncocklaw1_NumWide.j2 kj12 a0 a1 t132 t133 t135) = some r := by rw [if_pos rfl] at H; exact H
                clear H
                have H := H1
                clear H1
                have H' := Aside0.mk H
                clear H
                go_wp2
                go_meet
                case rel => exact ⟨_, (t135), (by first | rfl | (simp; done) | (simp [*]; done)), H', ⟨by have := HJ4.out; have := HJ12.out; first | omega | exact Nat.le_refl _⟩, ⟨by repeat (first | (with_reducible first | exact HB.out | apply below_alloc | apply pw_below_drewN | apply below_drew1) | exact HB.out)⟩⟩
              · replace c16 := Bool.eq_false_iff.mpr c16
                subst c16
                have H1 : (turncocklaw1_NumWide.j2 kj12 a0 a1 t132 t133 4611686018427387904) = some r := by rw [if_neg (show ¬ (false = true) by decide)] at H; exact H
                clear H
                have H := H1
                clear H1
                have H' := Aside0.mk H
                clear H
                go_wp2
                go_meet
                case rel => exact ⟨_, (4611686018427387904), (by first | rfl | (simp; done) | (simp [*]; done)), H', ⟨by have := HJ4.out; have := HJ12.out; first | omega | exact Nat.le_refl _⟩, ⟨by repeat (first | (with_reducible first | exact HB.out | apply below_alloc | apply pw_below_drewN | apply below_drew1) | exact HB.out)⟩⟩
            case rest =>
              clear HC15
              try clear c1
              try clear p2
              try clear c3
              try clear c5
              try clear c8
              try clear c8b0
              try clear c9
              try clear c9b0
              try clear c10
              try clear c10b0
              try clear c11
              try clear c12
              try clear c14
              try clear c14b0
              try clear c14b1
              try clear c16
              try clear p2
              obtain ⟨kq, x9_14, rfl, HA, HJ14, HB⟩ := hcut
              cases kq with
              | zero => exact absurd HA.out (by simp [turncocklaw1_NumWide.j2])
              | succ kj14 =>
                have H := HA.out
                clear HA
                simp only [turncocklaw1_NumWide.j2] at H
                replace H := Option.bind_eq_some_iff.mp H
                obtain ⟨t136, A170, H⟩ := H
                replace H : (if (IntKind.u64.wrap (t136)) = x9_14 then ((num_Add.f a0 a1).bind fun t137 => (if (IntKind.u64.wrap (t137)) = (mn (IntKind.u64.wrap ((IntKind.u64.wrap (t132)) + (IntKind.u64.wrap (t133)))) 4611686018427387904) then ((num_Sub.f a0 a1).bind fun t138 => ((num_Add.f t138 (mn t132 t133)).bind fun t139 => (if t139 = t132 then ((turncocklaw1_awake.f kj14).bind fun t140 => (some t140)) else (some false)))) else (some false))) else (some false)) = some r := H
                have A17 := Aside0.mk A170
                clear A170
                by_cases c18 : (IntKind.u64.wrap (t136)) = x9_14
                · rw [if_pos c18] at H
                  have c18b0 : ((IntKind.u64.wrap (t136)) == x9_14) = true := beq_iff_eq.mpr c18
                  have c18b1 : ((IntKind.u64.wrap (t136)) != x9_14) = false := bne_eq_false_iff_eq.mpr c18
                  clear c18
                  replace H := Option.bind_eq_some_iff.mp H
                  obtain ⟨t137, A190, H⟩ := H
                  replace H : (if (IntKind.u64.wrap (t137)) = (mn (IntKind.u64.wrap ((IntKind.u64.wrap (t132)) + (IntKind.u64.wrap (t133)))) 4611686018427387904) then ((num_Sub.f a0 a1).bind fun t138 => ((num_Add.f t138 (mn t132 t133)).bind fun t139 => (if t139 = t132 then ((turncocklaw1_awake.f kj14).bind fun t140 => (some t140)) else (some false)))) else (some false)) = some r := H
                  have A19 := Aside0.mk A190
                  clear A190
                  obtain ⟨ji20, hji20⟩ : ∃ j_ : Int, (mn (IntKind.u64.wrap ((IntKind.u64.wrap (t132)) + (IntKind.u64.wrap (t133)))) 4611686018427387904) = j_ := ⟨_, rfl⟩
                  replace H : (if (IntKind.u64.wrap (t137)) = (ji20) then ((num_Sub.f a0 a1).bind fun t138 => ((num_Add.f t138 (mn t132 t133)).bind fun t139 => (if t139 = t132 then ((turncocklaw1_awake.f kj14).bind fun t140 => (some t140)) else (some false)))) else (some false)) = some r := by first | (rw [hji20] at H; exact H) | (simp only [hji20] at H ⊢; exact H)
                  (try rw [hji20] at A17)
                  (try rw [hji20] at A19)
                  have hji20_ : (if 4611686018427387904 < (IntKind.u64.wrap ((IntKind.u64.wrap (t132)) + (IntKind.u64.wrap (t133)))) then 4611686018427387904 else (IntKind.u64.wrap ((IntKind.u64.wrap (t132)) + (IntKind.u64.wrap (t133))))) = ji20 := hji20
                  by_cases c21 : (IntKind.u64.wrap (t137)) = (ji20)
                  · rw [if_pos c21] at H
                    have c21b0 : ((IntKind.u64.wrap (t137)) == (ji20)) = true := beq_iff_eq.mpr c21
                    have c21b1 : ((IntKind.u64.wrap (t137)) != (ji20)) = false := bne_eq_false_iff_eq.mpr c21
                    clear c21
                    replace H := Option.bind_eq_some_iff.mp H
                    obtain ⟨t138, A220, H⟩ := H
                    replace H : ((num_Add.f t138 (mn t132 t133)).bind fun t139 => (if t139 = t132 then ((turncocklaw1_awake.f kj14).bind fun t140 => (some t140)) else (some false))) = some r := H
                    have A22 := Aside0.mk A220
                    clear A220
                    obtain ⟨ji23, hji23⟩ : ∃ j_ : Int, (mn t132 t133) = j_ := ⟨_, rfl⟩
                    replace H : ((num_Add.f t138 (ji23)).bind fun t139 => (if t139 = t132 then ((turncocklaw1_awake.f kj14).bind fun t140 => (some t140)) else (some false))) = some r := by first | (rw [hji23] at H; exact H) | (simp only [hji23] at H ⊢; exact H)
                    (try rw [hji23] at A17)
                    (try rw [hji23] at A19)
                    (try rw [hji23] at A22)
                    have hji23_ : (if t133 < t132 then t133 else t132) = ji23 := hji23
                    replace H := Option.bind_eq_some_iff.mp H
                    obtain ⟨t139, A240, H⟩ := H
                    replace H : (if t139 = t132 then ((turncocklaw1_awake.f kj14).bind fun t140 => (some t140)) else (some false)) = some r := H
                    have A24 := Aside0.mk A240
                    clear A240
                    by_cases c25 : t139 = t132
                    · rw [if_pos c25] at H
                      have c25b0 : (t139 == t132) = true := beq_iff_eq.mpr c25
                      have c25b1 : (t139 != t132) = false := bne_eq_false_iff_eq.mpr c25
                      clear c25
                      replace H := Option.bind_eq_some_iff.mp H
                      obtain ⟨t140, A260, H⟩ := H
                      replace H : (some t140) = some r := H
                      have A26 := Aside0.mk A260
                      clear A260
                      obtain rfl := Option.some.inj H
                      go_wp2_with (first | ((with_reducible refine gate_callee (f := 43) rfl ?_); refine goesL_ (some 46) rfl rfl Try.func43 (by kernel_rfl) rfl #[.int .i64 a0, .int .i64 a1] rfl (by (try simp only [List.map_toArray, List.map_cons, List.map_nil]); first | done | rfl | (simp only [List.length_drop, List.length_take]; rfl)) ?_; (with_reducible refine (num_Mul.calls a0 a1 t136 _ A17.out).mono ?_); rintro e w27 ⟨rfl, hb⟩; refine ⟨_, rfl, ?_⟩; have n0_ := Aside0.mk (below_step (by repeat (first | (with_reducible first | exact HB.out | apply below_alloc | apply pw_below_drewN | apply below_drew1) | exact HB.out)) hb); clear HB; have HB := n0_; clear n0_; (try clear hb); (try clear hb2); (try clear hk); (try clear hi)) | (go_at_call 39; (with_reducible refine (num_Add.calls a0 a1 t137 _ A19.out).mono ?_); rintro e w28 ⟨rfl, hb⟩; have n0_ := Aside0.mk (below_step (by repeat (first | (with_reducible first | exact HB.out | apply below_alloc | apply pw_below_drewN | apply below_drew1) | exact HB.out)) hb); clear HB; have HB := n0_; clear n0_; (try clear hb); (try clear hb2); (try clear hk); (try clear hi)) | (go_at_call 41; (with_reducible refine (num_Sub.calls a0 a1 t138 _ A22.out).mono ?_); rintro e w29 ⟨rfl, hb⟩; have n0_ := Aside0.mk (below_step (by repeat (first | (with_reducible first | exact HB.out | apply below_alloc | apply pw_below_drewN | apply below_drew1) | exact HB.out)) hb); clear HB; have HB := n0_; clear n0_; (try clear hb); (try clear hb2); (try clear hk); (try clear hi)) | (go_at_call 39; (with_reducible refine (num_Add.calls t138 ji23 t139 _ A24.out).mono ?_); rintro e w30 ⟨rfl, hb⟩; have n0_ := Aside0.mk (below_step (by repeat (first | (with_reducible first | exact HB.out | apply below_alloc | apply pw_below_drewN | apply below_drew1) | exact HB.out)) hb); clear HB; have HB := n0_; clear n0_; (try clear hb); (try clear hb2); (try clear hk); (try clear hi)) | (go_at_call 45; (with_reducible refine (turncocklaw1_awake.calls kj14  t140 _ A26.out).mono ?_); rintro e w31 ⟨rfl, hb⟩; have n0_ := Aside0.mk (below_step (by repeat (first | (with_reducible first | exact HB.out | apply below_alloc | apply pw_below_drewN | apply below_drew1) | exact HB.out)) hb); clear HB; have HB := n0_; clear n0_; (try clear hb); (try clear hb2); (try clear hk); (try clear hi)))
                      go_ret
                      exact ⟨by first | rfl | (simp [errW_none, errW_some] <;> rfl) | (simp only [← hji20, ← hji23]; first | rfl | (simp [errW_none, errW_some] <;> rfl)) | (simp [*, errW_none, errW_some] <;> rfl), by repeat (first | (with_reducible first | exact HB.out | apply below_alloc | apply pw_below_drewN | apply below_drew1) | exact HB.out)⟩
                    · rw [if_neg c25] at H
                      have c25b0 : (t139 == t132) = false := beq_eq_false_iff_ne.mpr c25
                      have c25b1 : (t139 != t132) = true := bne_iff_ne.mpr c25
                      obtain rfl := Option.some.inj H
                      go_wp2_with (first | ((with_reducible refine gate_callee (f := 43) rfl ?_); refine goesL_ (some 46) rfl rfl Try.func43 (by kernel_rfl) rfl #[.int .i64 a0, .int .i64 a1] rfl (by (try simp only [List.map_toArray, List.map_cons, List.map_nil]); first | done | rfl | (simp only [List.length_drop, List.length_take]; rfl)) ?_; (with_reducible refine (num_Mul.calls a0 a1 t136 _ A17.out).mono ?_); rintro e w32 ⟨rfl, hb⟩; refine ⟨_, rfl, ?_⟩; have n0_ := Aside0.mk (below_step (by repeat (first | (with_reducible first | exact HB.out | apply below_alloc | apply pw_below_drewN | apply below_drew1) | exact HB.out)) hb); clear HB; have HB := n0_; clear n0_; (try clear hb); (try clear hb2); (try clear hk); (try clear hi)) | (go_at_call 39; (with_reducible refine (num_Add.calls a0 a1 t137 _ A19.out).mono ?_); rintro e w33 ⟨rfl, hb⟩; have n0_ := Aside0.mk (below_step (by repeat (first | (with_reducible first | exact HB.out | apply below_alloc | apply pw_below_drewN | apply below_drew1) | exact HB.out)) hb); clear HB; have HB := n0_; clear n0_; (try clear hb); (try clear hb2); (try clear hk); (try clear hi)) | (go_at_call 41; (with_reducible refine (num_Sub.calls a0 a1 t138 _ A22.out).mono ?_); rintro e w34 ⟨rfl, hb⟩; have n0_ := Aside0.mk (below_step (by repeat (first | (with_reducible first | exact HB.out | apply below_alloc | apply pw_below_drewN | apply below_drew1) | exact HB.out)) hb); clear HB; have HB := n0_; clear n0_; (try clear hb); (try clear hb2); (try clear hk); (try clear hi)) | (go_at_call 39; (with_reducible refine (num_Add.calls t138 ji23 t139 _ A24.out).mono ?_); rintro e w35 ⟨rfl, hb⟩; have n0_ := Aside0.mk (below_step (by repeat (first | (with_reducible first | exact HB.out | apply below_alloc | apply pw_below_drewN | apply below_drew1) | exact HB.out)) hb); clear HB; have HB := n0_; clear n0_; (try clear hb); (try clear hb2); (try clear hk); (try clear hi)))
                      go_ret
                      exact ⟨by first | rfl | (simp [errW_none, errW_some] <;> rfl) | (simp only [← hji20, ← hji23]; first | rfl | (simp [errW_none, errW_some] <;> rfl)) | (simp [*, errW_none, errW_some] <;> rfl), by repeat (first | (with_reducible first | exact HB.out | apply below_alloc | apply pw_below_drewN | apply below_drew1) | exact HB.out)⟩
                  · rw [if_neg c21] at H
                    have c21b0 : ((IntKind.u64.wrap (t137)) == (ji20)) = false := beq_eq_false_iff_ne.mpr c21
                    have c21b1 : ((IntKind.u64.wrap (t137)) != (ji20)) = true := bne_iff_ne.mpr c21
                    obtain rfl := Option.some.inj H
                    go_wp2_with (first | ((with_reducible refine gate_callee (f := 43) rfl ?_); refine goesL_ (some 46) rfl rfl Try.func43 (by kernel_rfl) rfl #[.int .i64 a0, .int .i64 a1] rfl (by (try simp only [List.map_toArray, List.map_cons, List.map_nil]); first | done | rfl | (simp only [List.length_drop, List.length_take]; rfl)) ?_; (with_reducible refine (num_Mul.calls a0 a1 t136 _ A17.out).mono ?_); rintro e w36 ⟨rfl, hb⟩; refine ⟨_, rfl, ?_⟩; have n0_ := Aside0.mk (below_step (by repeat (first | (with_reducible first | exact HB.out | apply below_alloc | apply pw_below_drewN | apply below_drew1) | exact HB.out)) hb); clear HB; have HB := n0_; clear n0_; (try clear hb); (try clear hb2); (try clear hk); (try clear hi)) | (go_at_call 39; (with_reducible refine (num_Add.calls a0 a1 t137 _ A19.out).mono ?_); rintro e w37 ⟨rfl, hb⟩; have n0_ := Aside0.mk (below_step (by repeat (first | (with_reducible first | exact HB.out | apply below_alloc | apply pw_below_drewN | apply below_drew1) | exact HB.out)) hb); clear HB; have HB := n0_; clear n0_; (try clear hb); (try clear hb2); (try clear hk); (try clear hi)))
                    go_ret
                    exact ⟨by first | rfl | (simp [errW_none, errW_some] <;> rfl) | (simp only [← hji20]; first | rfl | (simp [errW_none, errW_some] <;> rfl)) | (simp [*, errW_none, errW_some] <;> rfl), by repeat (first | (with_reducible first | exact HB.out | apply below_alloc | apply pw_below_drewN | apply below_drew1) | exact HB.out)⟩
                · rw [if_neg c18] at H
                  have c18b0 : ((IntKind.u64.wrap (t136)) == x9_14) = false := beq_eq_false_iff_ne.mpr c18
                  have c18b1 : ((IntKind.u64.wrap (t136)) != x9_14) = true := bne_iff_ne.mpr c18
                  obtain rfl := Option.some.inj H
                  go_wp2_with (first | ((with_reducible refine gate_callee (f := 43) rfl ?_); refine goesL_ (some 46) rfl rfl Try.func43 (by kernel_rfl) rfl #[.int .i64 a0, .int .i64 a1] rfl (by (try simp only [List.map_toArray, List.map_cons, List.map_nil]); first | done | rfl | (simp only [List.length_drop, List.length_take]; rfl)) ?_; (with_reducible refine (num_Mul.calls a0 a1 t136 _ A17.out).mono ?_); rintro e w38 ⟨rfl, hb⟩; refine ⟨_, rfl, ?_⟩; have n0_ := Aside0.mk (below_step (by repeat (first | (with_reducible first | exact HB.out | apply below_alloc | apply pw_below_drewN | apply below_drew1) | exact HB.out)) hb); clear HB; have HB := n0_; clear n0_; (try clear hb); (try clear hb2); (try clear hk); (try clear hi)))
                  go_ret
                  exact ⟨by first | rfl | (simp [errW_none, errW_some] <;> rfl) | (simp [*, errW_none, errW_some] <;> rfl), by repeat (first | (with_reducible first | exact HB.out | apply below_alloc | apply pw_below_drewN | apply below_drew1) | exact HB.out)⟩

/-- THE ONE PURE STATEMENT of turncocklaw1_NumWide: yours. -/
def turncocklaw1_NumWide.Pure : Prop := ∀ (a0 : Int) (a1 : Int), (Lit.int .i64 a0).wf = true → (Lit.int .i64 a1).wf = true → ∃ k, turncocklaw1_NumWide.f k a0 a1 = some true
theorem turncocklaw1_NumWide.walk (P : turncocklaw1_NumWide.Pure) (a0 : Int) (a1 : Int) (w : World) (w0 : (Lit.int .i64 a0).wf = true) (w1 : (Lit.int .i64 a1).wf = true) :
    Calls Try.prog 12 #[.int .i64 a0, .int .i64 a1] w fun e w' => e = .returned (.bool true) ∧ Below w.heap.size w w' := by
  obtain ⟨k, h⟩ := P a0 a1 w0 w1
  refine (turncocklaw1_NumWide.calls k a0 a1 true w h).mono ?_
  rintro e w' ⟨rfl, hd⟩
  exact ⟨rfl, hd⟩

end Go.Proofs.Ytjiaombbjmhmoaa.PNumWide
