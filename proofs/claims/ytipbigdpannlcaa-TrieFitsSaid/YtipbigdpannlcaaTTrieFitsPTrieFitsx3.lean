/- What the law TrieFits uses, thinned: printed by shake2.py. -/
import Derived.Test.YtipbigdpannlcaaTTrieFitsPTrieFitsx0
import Derived.Test.YtipbigdpannlcaaTTrieFitsPTrieFitsx2
namespace Go.Proofs.Ytipbigdpannlcaa.PTrieFits
open Go.RowKit Go.Proofs.YtipbigdpannlcaaW.PrintWords Go.Proofs.YtipbigdpannlcaaW.PrintLast Go.Proofs.YtipbigdpannlcaaW.PrintMore
attribute [local go_sem] max2_int min2_int max_two min_two max_three min_three max_four min_four
set_option linter.unusedVariables false
set_option linter.unusedSimpArgs false
def ratio_Parse.j0 : Nat → Bool → ByteArray → ByteArray → Bool → Option (Nat × Bool)
  | 0, _, _, _, _ => none
  | k + 1, x4, x5, x6, x50 => if x50 = true then (some (0, false)) else (if x5.size + x6.size ≤ 9223372036854775807 then ((ratio_value.f k (x5 ++ x6)).bind fun t152 => ((ratio_ten.f k (x6.size : Int)).bind fun t153 => (if (fquoOk (fofi t152) (fofi t153)) = true then (if x4 = true then ((math_Copysign.f (fquo (fofi t152) (fofi t153)) 13830554455654793216).bind fun t154 => (some (t154, true))) else (some (fquo (fofi t152) (fofi t153), true))) else (none)))) else (none))
def ratio_Parse.f (k : Nat) (a0 : ByteArray) : Option (Nat × Bool) := if a0.toList = ([110, 97, 110] : List UInt8) then ((math_NaN.f).bind fun t141 => (some (t141, true))) else (if a0.toList = ([105, 110, 102] : List UInt8) then ((math_Inf.f 1).bind fun t142 => (some (t142, true))) else (if a0.toList = ([45, 105, 110, 102] : List UInt8) then ((math_Inf.f (-1)).bind fun t143 => (some (t143, true))) else ((strings_CutPrefix.f a0 (⟨#[45]⟩ : ByteArray)).bind fun bt144 => ((strings_Cut.f bt144.1 (⟨#[46]⟩ : ByteArray)).bind fun bt146 => ((ratio_digits.f k bt146.1 9).bind fun t149 => (if t149 = true then (if (bt146.1.size : Int) > 1 then (if 0 < (bt146.1.size : Int) then (if (bt bt146.1 0) = 48 then (ratio_Parse.j0 k bt144.2 bt146.1 bt146.2.1 true) else (if bt146.2.2 = true then ((ratio_digits.f k bt146.2.1 6).bind fun t150 => (ratio_Parse.j0 k bt144.2 bt146.1 bt146.2.1 (!t150))) else (ratio_Parse.j0 k bt144.2 bt146.1 bt146.2.1 false))) else (none)) else (if bt146.2.2 = true then ((ratio_digits.f k bt146.2.1 6).bind fun t151 => (ratio_Parse.j0 k bt144.2 bt146.1 bt146.2.1 (!t151))) else (ratio_Parse.j0 k bt144.2 bt146.1 bt146.2.1 false))) else (ratio_Parse.j0 k bt144.2 bt146.1 bt146.2.1 true)))))))
set_option maxHeartbeats 8000000 in
set_option maxRecDepth 100000 in
theorem ratio_Parse.calls (k : Nat) (a0 : ByteArray) (r1 : Nat) (r2 : Bool) (w : World) (h : ratio_Parse.f k a0 = some (r1, r2)) :
    Calls Try.prog 85 #[.string a0] w fun e w' => e = .returned (.tuple #[.float .f64 r1, .bool r2]) ∧ Below w.heap.size w w' := by
  have HB := Aside0.mk (Below.refl w.heap.size w)
  have H : (if a0.toList = ([110, 97, 110] : List UInt8) then ((math_NaN.f).bind fun t141 => (some (t141, true))) else (if a0.toList = ([105, 110, 102] : List UInt8) then ((math_Inf.f 1).bind fun t142 => (some (t142, true))) else (if a0.toList = ([45, 105, 110, 102] : List UInt8) then ((math_Inf.f (-1)).bind fun t143 => (some (t143, true))) else ((strings_CutPrefix.f a0 (⟨#[45]⟩ : ByteArray)).bind fun bt144 => ((strings_Cut.f bt144.1 (⟨#[46]⟩ : ByteArray)).bind fun bt146 => ((ratio_digits.f k bt146.1 9).bind fun t149 => (if t149 = true then (if (bt146.1.size : Int) > 1 then (if 0 < (bt146.1.size : Int) then (if (bt bt146.1 0) = 48 then (ratio_Parse.j0 k bt144.2 bt146.1 bt146.2.1 true) else (if bt146.2.2 = true then ((ratio_digits.f k bt146.2.1 6).bind fun t150 => (ratio_Parse.j0 k bt144.2 bt146.1 bt146.2.1 (!t150))) else (ratio_Parse.j0 k bt144.2 bt146.1 bt146.2.1 false))) else (none)) else (if bt146.2.2 = true then ((ratio_digits.f k bt146.2.1 6).bind fun t151 => (ratio_Parse.j0 k bt144.2 bt146.1 bt146.2.1 (!t151))) else (ratio_Parse.j0 k bt144.2 bt146.1 bt146.2.1 false))) else (ratio_Parse.j0 k bt144.2 bt146.1 bt146.2.1 true)))))))) = some (r1, r2) := h
  clear h
  by_cases c2 : a0.toList = ([110, 97, 110] : List UInt8)
  · rw [if_pos c2] at H
    have c2b0 : (a0.toList == ([110, 97, 110] : List UInt8)) = true := beq_iff_eq.mpr c2
    have c2b1 : (a0.toList != ([110, 97, 110] : List UInt8)) = false := bne_eq_false_iff_eq.mpr c2
    clear c2
    replace H := Option.bind_eq_some_iff.mp H
    obtain ⟨t141, A30, H⟩ := H
    replace H : (some (t141, true)) = some (r1, r2) := H
    have A3 := Aside0.mk A30
    clear A30
    simp only [Option.some.injEq, Prod.mk.injEq] at H
    obtain ⟨rfl, rfl⟩ := H
    go_enter Try.func85, Try.ntmps85
    go_wp2_with (first | ((with_reducible refine gate_callee (f := 51) rfl ?_); refine goesL_ (some 12) rfl rfl Try.func51 (by kernel_rfl) rfl #[] rfl (by (try simp only [List.map_toArray, List.map_cons, List.map_nil]); first | done | rfl | (simp only [List.length_drop, List.length_take]; rfl)) ?_; (with_reducible refine (math_NaN.calls  t141 _ A3.out).mono ?_); rintro e w' ⟨rfl, ⟨nd, rfl⟩⟩; refine ⟨_, rfl, ?_⟩))
    go_ret2
    exact ⟨by first | rfl | (simp [errW_none, errW_some] <;> rfl) | (simp [*, errW_none, errW_some] <;> rfl), by repeat (first | (with_reducible first | exact HB.out | apply below_alloc | apply pw_below_drewN | apply below_drew1) | exact HB.out)⟩
  · rw [if_neg c2] at H
    have c2b0 : (a0.toList == ([110, 97, 110] : List UInt8)) = false := beq_eq_false_iff_ne.mpr c2
    have c2b1 : (a0.toList != ([110, 97, 110] : List UInt8)) = true := bne_iff_ne.mpr c2
    by_cases c4 : a0.toList = ([105, 110, 102] : List UInt8)
    · rw [if_pos c4] at H
      have c4b0 : (a0.toList == ([105, 110, 102] : List UInt8)) = true := beq_iff_eq.mpr c4
      have c4b1 : (a0.toList != ([105, 110, 102] : List UInt8)) = false := bne_eq_false_iff_eq.mpr c4
      clear c4
      replace H := Option.bind_eq_some_iff.mp H
      obtain ⟨t142, A50, H⟩ := H
      replace H : (some (t142, true)) = some (r1, r2) := H
      have A5 := Aside0.mk A50
      clear A50
      simp only [Option.some.injEq, Prod.mk.injEq] at H
      obtain ⟨rfl, rfl⟩ := H
      go_enter Try.func85, Try.ntmps85
      go_wp2_with (first | ((with_reducible refine gate_callee (f := 52) rfl ?_); refine goesL_ (some 15) rfl rfl Try.func52 (by kernel_rfl) rfl #[.int .i64 1] rfl (by (try simp only [List.map_toArray, List.map_cons, List.map_nil]); first | done | rfl | (simp only [List.length_drop, List.length_take]; rfl)) ?_; (with_reducible refine (math_Inf.calls 1 t142 _ A5.out).mono ?_); rintro e w' ⟨rfl, ⟨nd, rfl⟩⟩; refine ⟨_, rfl, ?_⟩))
      go_ret2
      exact ⟨by first | rfl | (simp [errW_none, errW_some] <;> rfl) | (simp [*, errW_none, errW_some] <;> rfl), by repeat (first | (with_reducible first | exact HB.out | apply below_alloc | apply pw_below_drewN | apply below_drew1) | exact HB.out)⟩
    · rw [if_neg c4] at H
      have c4b0 : (a0.toList == ([105, 110, 102] : List UInt8)) = false := beq_eq_false_iff_ne.mpr c4
      have c4b1 : (a0.toList != ([105, 110, 102] : List UInt8)) = true := bne_iff_ne.mpr c4
      by_cases c6 : a0.toList = ([45, 105, 110, 102] : List UInt8)
      · rw [if_pos c6] at H
        have c6b0 : (a0.toList == ([45, 105, 110, 102] : List UInt8)) = true := beq_iff_eq.mpr c6
        have c6b1 : (a0.toList != ([45, 105, 110, 102] : List UInt8)) = false := bne_eq_false_iff_eq.mpr c6
        clear c6
        replace H := Option.bind_eq_some_iff.mp H
        obtain ⟨t143, A70, H⟩ := H
        replace H : (some (t143, true)) = some (r1, r2) := H
        have A7 := Aside0.mk A70
        clear A70
        simp only [Option.some.injEq, Prod.mk.injEq] at H
        obtain ⟨rfl, rfl⟩ := H
        go_enter Try.func85, Try.ntmps85
        go_wp2_with (first | ((with_reducible refine gate_callee (f := 52) rfl ?_); refine goesL_ (some 18) rfl rfl Try.func52 (by kernel_rfl) rfl #[.int .i64 (-1)] rfl (by (try simp only [List.map_toArray, List.map_cons, List.map_nil]); first | done | rfl | (simp only [List.length_drop, List.length_take]; rfl)) ?_; (with_reducible refine (math_Inf.calls (-1) t143 _ A7.out).mono ?_); rintro e w' ⟨rfl, ⟨nd, rfl⟩⟩; refine ⟨_, rfl, ?_⟩))
        go_ret2
        exact ⟨by first | rfl | (simp [errW_none, errW_some] <;> rfl) | (simp [*, errW_none, errW_some] <;> rfl), by repeat (first | (with_reducible first | exact HB.out | apply below_alloc | apply pw_below_drewN | apply below_drew1) | exact HB.out)⟩
      · rw [if_neg c6] at H
        have c6b0 : (a0.toList == ([45, 105, 110, 102] : List UInt8)) = false := beq_eq_false_iff_ne.mpr c6
        have c6b1 : (a0.toList != ([45, 105, 110, 102] : List UInt8)) = true := bne_iff_ne.mpr c6
        replace H := Option.bind_eq_some_iff.mp H
        obtain ⟨⟨t144, t145⟩, A80, H⟩ := H
        replace H : ((strings_Cut.f t144 (⟨#[46]⟩ : ByteArray)).bind fun bt146 => ((ratio_digits.f k bt146.1 9).bind fun t149 => (if t149 = true then (if (bt146.1.size : Int) > 1 then (if 0 < (bt146.1.size : Int) then (if (bt bt146.1 0) = 48 then (ratio_Parse.j0 k t145 bt146.1 bt146.2.1 true) else (if bt146.2.2 = true then ((ratio_digits.f k bt146.2.1 6).bind fun t150 => (ratio_Parse.j0 k t145 bt146.1 bt146.2.1 (!t150))) else (ratio_Parse.j0 k t145 bt146.1 bt146.2.1 false))) else (none)) else (if bt146.2.2 = true then ((ratio_digits.f k bt146.2.1 6).bind fun t151 => (ratio_Parse.j0 k t145 bt146.1 bt146.2.1 (!t151))) else (ratio_Parse.j0 k t145 bt146.1 bt146.2.1 false))) else (ratio_Parse.j0 k t145 bt146.1 bt146.2.1 true)))) = some (r1, r2) := H
        have A8 := Aside0.mk A80
        clear A80
        replace H := Option.bind_eq_some_iff.mp H
        obtain ⟨⟨t146, t147, t148⟩, A90, H⟩ := H
        replace H : ((ratio_digits.f k t146 9).bind fun t149 => (if t149 = true then (if (t146.size : Int) > 1 then (if 0 < (t146.size : Int) then (if (bt t146 0) = 48 then (ratio_Parse.j0 k t145 t146 t147 true) else (if t148 = true then ((ratio_digits.f k t147 6).bind fun t150 => (ratio_Parse.j0 k t145 t146 t147 (!t150))) else (ratio_Parse.j0 k t145 t146 t147 false))) else (none)) else (if t148 = true then ((ratio_digits.f k t147 6).bind fun t151 => (ratio_Parse.j0 k t145 t146 t147 (!t151))) else (ratio_Parse.j0 k t145 t146 t147 false))) else (ratio_Parse.j0 k t145 t146 t147 true))) = some (r1, r2) := H
        have A9 := Aside0.mk A90
        clear A90
        have HC10 := Aside0.mk H
        clear H
        go_enter Try.func85, Try.ntmps85
        go_upto_region 10 with (first | ((with_reducible refine gate_callee (f := 92) rfl ?_); refine goesL_ (some 21) rfl rfl Try.func92 (by kernel_rfl) rfl #[.string a0, .string (⟨#[45]⟩ : ByteArray)] rfl (by (try simp only [List.map_toArray, List.map_cons, List.map_nil]); first | done | rfl | (simp only [List.length_drop, List.length_take]; rfl)) ?_; (with_reducible refine (strings_CutPrefix.calls a0 (⟨#[45]⟩ : ByteArray) t144 t145 _ A8.out).mono ?_); rintro e w' ⟨rfl, ⟨nd, rfl⟩⟩; refine ⟨_, rfl, ?_⟩) | ((with_reducible refine gate_callee (f := 93) rfl ?_); refine goesL_ (some 26) rfl rfl Try.func93 (by kernel_rfl) rfl #[.string t144, .string (⟨#[46]⟩ : ByteArray)] rfl (by (try simp only [List.map_toArray, List.map_cons, List.map_nil]); first | done | rfl | (simp only [List.length_drop, List.length_take]; rfl)) ?_; (with_reducible refine (strings_Cut.calls t144 (⟨#[46]⟩ : ByteArray) t146 t147 t148 _ A9.out).mono ?_); rintro e w' ⟨rfl, ⟨nd, rfl⟩⟩; refine ⟨_, rfl, ?_⟩))
        (try simp only [Act.put, List.setIfInBounds_toArray, List.set_cons_zero, List.set_cons_succ])
        go_cut [50] (fun v50 wc => ∃ (kq : Nat) (x50_9 : Bool), v50 = .bool x50_9 ∧ Aside0 (ratio_Parse.j0 kq t145 t146 t147 x50_9 = some (r1, r2)) ∧ Aside0 (kq ≤ k) ∧ Aside0 (Below w.heap.size w wc))
        case first =>
          have H := HC10.out
          clear HC10
          replace H := Option.bind_eq_some_iff.mp H
          obtain ⟨t149, A110, H⟩ := H
          replace H : (if t149 = true then (if (t146.size : Int) > 1 then (if 0 < (t146.size : Int) then (if (bt t146 0) = 48 then (ratio_Parse.j0 k t145 t146 t147 true) else (if t148 = true then ((ratio_digits.f k t147 6).bind fun t150 => (ratio_Parse.j0 k t145 t146 t147 (!t150))) else (ratio_Parse.j0 k t145 t146 t147 false))) else (none)) else (if t148 = true then ((ratio_digits.f k t147 6).bind fun t151 => (ratio_Parse.j0 k t145 t146 t147 (!t151))) else (ratio_Parse.j0 k t145 t146 t147 false))) else (ratio_Parse.j0 k t145 t146 t147 true)) = some (r1, r2) := H
          have A11 := Aside0.mk A110
          clear A110
          by_cases c12 : t149 = true
          · subst c12
            have H1 : (if (t146.size : Int) > 1 then (if 0 < (t146.size : Int) then (if (bt t146 0) = 48 then (ratio_Parse.j0 k t145 t146 t147 true) else (if t148 = true then ((ratio_digits.f k t147 6).bind fun t150 => (ratio_Parse.j0 k t145 t146 t147 (!t150))) else (ratio_Parse.j0 k t145 t146 t147 false))) else (none)) else (if t148 = true then ((ratio_digits.f k t147 6).bind fun t151 => (ratio_Parse.j0 k t145 t146 t147 (!t151))) else (ratio_Parse.j0 k t145 t146 t147 false))) = some (r1, r2) := by rw [if_pos rfl] at H; exact H
            clear H
            have H := H1
            clear H1
            by_cases c13 : (t146.size : Int) > 1
            · rw [if_pos c13] at H
              have c13b0 : decide (1 < (t146.size : Int)) = true := decide_eq_true c13
              have c13b1 : decide (1 < t146.size) = true := decide_eq_true (by omega)
              clear c13
              (first | rw [c13b0] | (simp only [i64_w, i32_w]; rw [c13b0]) | skip)
              by_cases c14 : 0 < (t146.size : Int)
              · rw [if_pos c14] at H
                have c14b0 : decide (0 < (t146.size : Int)) = true := decide_eq_true c14
                have c14b1 : decide (0 < t146.size) = true := decide_eq_true (by omega)
                clear c14
                by_cases c16 : (bt t146 0) = 48
                · rw [if_pos c16] at H
                  have c16b0 : ((bt t146 0) == 48) = true := beq_iff_eq.mpr c16
                  have c16b1 : ((bt t146 0) != 48) = false := bne_eq_false_iff_eq.mpr c16
                  clear c16
                  have H' := Aside0.mk H
                  clear H
                  go_wp2_with (first | ((with_reducible refine gate_callee (f := 94) rfl ?_); refine goesL_ (some 31) rfl rfl Try.func94 (by kernel_rfl) rfl #[.string t146, .int .i64 9] rfl (by (try simp only [List.map_toArray, List.map_cons, List.map_nil]); first | done | rfl | (simp only [List.length_drop, List.length_take]; rfl)) ?_; (with_reducible refine (ratio_digits.calls k t146 9 true _ A11.out).mono ?_); rintro e w17 ⟨rfl, hb⟩; refine ⟨_, rfl, ?_⟩; have n0_ := Aside0.mk (below_step (by repeat (first | (with_reducible first | exact HB.out | apply below_alloc | apply pw_below_drewN | apply below_drew1) | exact HB.out)) hb); clear HB; have HB := n0_; clear n0_; (try clear hb); (try clear hb2); (try clear hk); (try clear hi); have p15 : 0 ≤ (0 : Int) := (by omega); have q15 : 0 < t146.size := (by have : (0 : Int) < (t146.size : Int) := of_decide_eq_true (by first | (with_reducible assumption) | assumption); omega); have hx15 : ∀ h : 0 < t146.size, ((t146[0]'h).toNat : Int) = bt t146 0 := bt_at t146 0; clear p15; have qi15 : (0 < (t146.size : Int)) = True := eq_true (of_decide_eq_true (by first | (with_reducible assumption) | assumption)); replace q15 := eq_true q15))
                  go_meet
                  case rel => exact ⟨_, (true), (by first | rfl | (simp; done) | (simp [*]; done)), H', ⟨by first | omega | exact Nat.le_refl _⟩, ⟨by repeat (first | (with_reducible first | exact HB.out | apply below_alloc | apply pw_below_drewN | apply below_drew1) | exact HB.out)⟩⟩
                · rw [if_neg c16] at H
                  have c16b0 : ((bt t146 0) == 48) = false := beq_eq_false_iff_ne.mpr c16
                  have c16b1 : ((bt t146 0) != 48) = true := bne_iff_ne.mpr c16
                  by_cases c18 : t148 = true
                  · subst c18
                    have H1 : ((ratio_digits.f k t147 6).bind fun t150 => (ratio_Parse.j0 k t145 t146 t147 (!t150))) = some (r1, r2) := by rw [if_pos rfl] at H; exact H
                    clear H
                    have H := H1
                    clear H1
                    replace H := Option.bind_eq_some_iff.mp H
                    obtain ⟨t150, A190, H⟩ := H
                    replace H : (ratio_Parse.j0 k t145 t146 t147 (!t150)) = some (r1, r2) := H
                    have A19 := Aside0.mk A190
                    clear A190
                    have H' := Aside0.mk H
                    clear H
                    go_wp2_with (first | ((with_reducible refine gate_callee (f := 94) rfl ?_); refine goesL_ (some 31) rfl rfl Try.func94 (by kernel_rfl) rfl #[.string t146, .int .i64 9] rfl (by (try simp only [List.map_toArray, List.map_cons, List.map_nil]); first | done | rfl | (simp only [List.length_drop, List.length_take]; rfl)) ?_; (with_reducible refine (ratio_digits.calls k t146 9 true _ A11.out).mono ?_); rintro e w20 ⟨rfl, hb⟩; refine ⟨_, rfl, ?_⟩; have n0_ := Aside0.mk (below_step (by repeat (first | (with_reducible first | exact HB.out | apply below_alloc | apply pw_below_drewN | apply below_drew1) | exact HB.out)) hb); clear HB; have HB := n0_; clear n0_; (try clear hb); (try clear hb2); (try clear hk); (try clear hi); have p15 : 0 ≤ (0 : Int) := (by omega); have q15 : 0 < t146.size := (by have : (0 : Int) < (t146.size : Int) := of_decide_eq_true (by first | (with_reducible assumption) | assumption); omega); have hx15 : ∀ h : 0 < t146.size, ((t146[0]'h).toNat : Int) = bt t146 0 := bt_at t146 0; clear p15; have qi15 : (0 < (t146.size : Int)) = True := eq_true (of_decide_eq_true (by first | (with_reducible assumption) | assumption)); replace q15 := eq_true q15) | (go_at_call 94; (with_reducible refine (ratio_digits.calls k t147 6 t150 _ A19.out).mono ?_); rintro e w21 ⟨rfl, hb⟩; have n0_ := Aside0.mk (below_step (by repeat (first | (with_reducible first | exact HB.out | apply below_alloc | apply pw_below_drewN | apply below_drew1) | exact HB.out)) hb); clear HB; have HB := n0_; clear n0_; (try clear hb); (try clear hb2); (try clear hk); (try clear hi)))
                    go_meet
                    case rel => exact ⟨_, (!t150), (by first | rfl | (simp; done) | (simp [*]; done)), H', ⟨by first | omega | exact Nat.le_refl _⟩, ⟨by repeat (first | (with_reducible first | exact HB.out | apply below_alloc | apply pw_below_drewN | apply below_drew1) | exact HB.out)⟩⟩
                  · replace c18 := Bool.eq_false_iff.mpr c18
                    subst c18
                    have H1 : (ratio_Parse.j0 k t145 t146 t147 false) = some (r1, r2) := by rw [if_neg (show ¬ (false = true) by decide)] at H; exact H
                    clear H
                    have H := H1
                    clear H1
                    have H' := Aside0.mk H
                    clear H
                    go_wp2_with (first | ((with_reducible refine gate_callee (f := 94) rfl ?_); refine goesL_ (some 31) rfl rfl Try.func94 (by kernel_rfl) rfl #[.string t146, .int .i64 9] rfl (by (try simp only [List.map_toArray, List.map_cons, List.map_nil]); first | done | rfl | (simp only [List.length_drop, List.length_take]; rfl)) ?_; (with_reducible refine (ratio_digits.calls k t146 9 true _ A11.out).mono ?_); rintro e w22 ⟨rfl, hb⟩; refine ⟨_, rfl, ?_⟩; have n0_ := Aside0.mk (below_step (by repeat (first | (with_reducible first | exact HB.out | apply below_alloc | apply pw_below_drewN | apply below_drew1) | exact HB.out)) hb); clear HB; have HB := n0_; clear n0_; (try clear hb); (try clear hb2); (try clear hk); (try clear hi); have p15 : 0 ≤ (0 : Int) := (by omega); have q15 : 0 < t146.size := (by have : (0 : Int) < (t146.size : Int) := of_decide_eq_true (by first | (with_reducible assumption) | assumption); omega); have hx15 : ∀ h : 0 < t146.size, ((t146[0]'h).toNat : Int) = bt t146 0 := bt_at t146 0; clear p15; have qi15 : (0 < (t146.size : Int)) = True := eq_true (of_decide_eq_true (by first | (with_reducible assumption) | assumption)); replace q15 := eq_true q15))
                    go_meet
                    case rel => exact ⟨_, (false), (by first | rfl | (simp; done) | (simp [*]; done)), H', ⟨by first | omega | exact Nat.le_refl _⟩, ⟨by repeat (first | (with_reducible first | exact HB.out | apply below_alloc | apply pw_below_drewN | apply below_drew1) | exact HB.out)⟩⟩
              · rw [if_neg c14] at H
                exact absurd H (by simp)
            · rw [if_neg c13] at H
              have c13b0 : decide (1 < (t146.size : Int)) = false := decide_eq_false c13
              have c13b1 : decide (1 < t146.size) = false := decide_eq_false (by omega)
              clear c13
              (first | rw [c13b0] | (simp only [i64_w, i32_w]; rw [c13b0]) | skip)
              by_cases c23 : t148 = true
              · subst c23
                have H1 : ((ratio_digits.f k t147 6).bind fun t151 => (ratio_Parse.j0 k t145 t146 t147 (!t151))) = some (r1, r2) := by rw [if_pos rfl] at H; exact H
                clear H
                have H := H1
                clear H1
                replace H := Option.bind_eq_some_iff.mp H
                obtain ⟨t151, A240, H⟩ := H
                replace H : (ratio_Parse.j0 k t145 t146 t147 (!t151)) = some (r1, r2) := H
                have A24 := Aside0.mk A240
                clear A240
                have H' := Aside0.mk H
                clear H
                go_wp2_with (first | ((with_reducible refine gate_callee (f := 94) rfl ?_); refine goesL_ (some 31) rfl rfl Try.func94 (by kernel_rfl) rfl #[.string t146, .int .i64 9] rfl (by (try simp only [List.map_toArray, List.map_cons, List.map_nil]); first | done | rfl | (simp only [List.length_drop, List.length_take]; rfl)) ?_; (with_reducible refine (ratio_digits.calls k t146 9 true _ A11.out).mono ?_); rintro e w25 ⟨rfl, hb⟩; refine ⟨_, rfl, ?_⟩; have n0_ := Aside0.mk (below_step (by repeat (first | (with_reducible first | exact HB.out | apply below_alloc | apply pw_below_drewN | apply below_drew1) | exact HB.out)) hb); clear HB; have HB := n0_; clear n0_; (try clear hb); (try clear hb2); (try clear hk); (try clear hi)) | (go_at_call 94; (with_reducible refine (ratio_digits.calls k t147 6 t151 _ A24.out).mono ?_); rintro e w26 ⟨rfl, hb⟩; have n0_ := Aside0.mk (below_step (by repeat (first | (with_reducible first | exact HB.out | apply below_alloc | apply pw_below_drewN | apply below_drew1) | exact HB.out)) hb); clear HB; have HB := n0_; clear n0_; (try clear hb); (try clear hb2); (try clear hk); (try clear hi)))
                go_meet
                case rel => exact ⟨_, (!t151), (by first | rfl | (simp; done) | (simp [*]; done)), H', ⟨by first | omega | exact Nat.le_refl _⟩, ⟨by repeat (first | (with_reducible first | exact HB.out | apply below_alloc | apply pw_below_drewN | apply below_drew1) | exact HB.out)⟩⟩
              · replace c23 := Bool.eq_false_iff.mpr c23
                subst c23
                have H1 : (ratio_Parse.j0 k t145 t146 t147 false) = some (r1, r2) := by rw [if_neg (show ¬ (false = true) by decide)] at H; exact H
                clear H
                have H := H1
                clear H1
                have H' := Aside0.mk H
                clear H
                go_wp2_with (first | ((with_reducible refine gate_callee (f := 94) rfl ?_); refine goesL_ (some 31) rfl rfl Try.func94 (by kernel_rfl) rfl #[.string t146, .int .i64 9] rfl (by (try simp only [List.map_toArray, List.map_cons, List.map_nil]); first | done | rfl | (simp only [List.length_drop, List.length_take]; rfl)) ?_; (with_reducible refine (ratio_digits.calls k t146 9 true _ A11.out).mono ?_); rintro e w27 ⟨rfl, hb⟩; refine ⟨_, rfl, ?_⟩; have n0_ := Aside0.mk (below_step (by repeat (first | (with_reducible first | exact HB.out | apply below_alloc | apply pw_below_drewN | apply below_drew1) | exact HB.out)) hb); clear HB; have HB := n0_; clear n0_; (try clear hb); (try clear hb2); (try clear hk); (try clear hi)))
                go_meet
                case rel => exact ⟨_, (false), (by first | rfl | (simp; done) | (simp [*]; done)), H', ⟨by first | omega | exact Nat.le_refl _⟩, ⟨by repeat (first | (with_reducible first | exact HB.out | apply below_alloc | apply pw_below_drewN | apply below_drew1) | exact HB.out)⟩⟩
          · replace c12 := Bool.eq_false_iff.mpr c12
            subst c12
            have H1 : (ratio_Parse.j0 k t145 t146 t147 true) = some (r1, r2) := by rw [if_neg (show ¬ (false = true) by decide)] at H; exact H
            clear H
            have H := H1
            clear H1
            have H' := Aside0.mk H
            clear H
            go_wp2_with (first | ((with_reducible refine gate_callee (f := 94) rfl ?_); refine goesL_ (some 31) rfl rfl Try.func94 (by kernel_rfl) rfl #[.string t146, .int .i64 9] rfl (by (try simp only [List.map_toArray, List.map_cons, List.map_nil]); first | done | rfl | (simp only [List.length_drop, List.length_take]; rfl)) ?_; (with_reducible refine (ratio_digits.calls k t146 9 false _ A11.out).mono ?_); rintro e w28 ⟨rfl, hb⟩; refine ⟨_, rfl, ?_⟩; have n0_ := Aside0.mk (below_step (by repeat (first | (with_reducible first | exact HB.out | apply below_alloc | apply pw_below_drewN | apply below_drew1) | exact HB.out)) hb); clear HB; have HB := n0_; clear n0_; (try clear hb); (try clear hb2); (try clear hk); (try clear hi)))
            go_meet
            case rel => exact ⟨_, (true), (by first | rfl | (simp; done) | (simp [*]; done)), H', ⟨by first | omega | exact Nat.le_refl _⟩, ⟨by repeat (first | (with_reducible first | exact HB.out | apply below_alloc | apply pw_below_drewN | apply below_drew1) | exact HB.out)⟩⟩
        case rest =>
          clear HC10
          try clear c1
          try clear p1
          try clear q1
          try clear hx1
          try clear qi1
          try clear c2
          try clear c2b0
          try clear c2b1
          try clear p2
          try clear c4
          try clear c4b0
          try clear c4b1
          try clear c5
          try clear c6
          try clear c6b0
          try clear c6b1
          try clear c8
          try clear c9
          try clear c12
          try clear c13
          try clear c13b0
          try clear c13b1
          try clear c14
          try clear c14b0
          try clear c14b1
          try clear p15
          try clear q15
          try clear hx15
          try clear qi15
          try clear c16
          try clear c16b0
          try clear c16b1
          try clear c18
          try clear c23
          try clear p15
          try clear q15
          obtain ⟨kq, x50_9, rfl, HA, HJ9, HB⟩ := hcut
          cases kq with
          | zero => exact absurd HA.out (by simp [ratio_Parse.j0])
          | succ kj9 =>
            have H := HA.out
            clear HA
            simp only [ratio_Parse.j0] at H
            by_cases c29 : x50_9 = true
            · subst c29
              have H1 : (some (0, false)) = some (r1, r2) := by rw [if_pos rfl] at H; exact H
              clear H
              have H := H1
              clear H1
              simp only [Option.some.injEq, Prod.mk.injEq] at H
              obtain ⟨rfl, rfl⟩ := H
              go_wp2
              go_ret2
              exact ⟨by first | rfl | (simp [errW_none, errW_some] <;> rfl) | (simp [*, errW_none, errW_some] <;> rfl), by repeat (first | (with_reducible first | exact HB.out | apply below_alloc | apply pw_below_drewN | apply below_drew1) | exact HB.out)⟩
            · replace c29 := Bool.eq_false_iff.mpr c29
              subst c29
              have H1 : (if t146.size + t147.size ≤ 9223372036854775807 then ((ratio_value.f kj9 (t146 ++ t147)).bind fun t152 => ((ratio_ten.f kj9 (t147.size : Int)).bind fun t153 => (if (fquoOk (fofi t152) (fofi t153)) = true then (if t145 = true then ((math_Copysign.f (fquo (fofi t152) (fofi t153)) 13830554455654793216).bind fun t154 => (some (t154, true))) else (some (fquo (fofi t152) (fofi t153), true))) else (none)))) else (none)) = some (r1, r2) := by rw [if_neg (show ¬ (false = true) by decide)] at H; exact H
              clear H
              have H := H1
              clear H1
              by_cases c30 : t146.size + t147.size ≤ 9223372036854775807
              · rw [if_pos c30] at H
                have c30b0 := eq_true c30
                have c30b1 : decide (t146.size + t147.size ≤ 9223372036854775807) = true := decide_eq_true c30
                try have c30b2 : (9223372036854775807 < t146.size + t147.size) = False := eq_false (Nat.not_lt.2 c30)
                replace H := Option.bind_eq_some_iff.mp H
                obtain ⟨t152, A310, H⟩ := H
                replace H : ((ratio_ten.f kj9 (t147.size : Int)).bind fun t153 => (if (fquoOk (fofi t152) (fofi t153)) = true then (if t145 = true then ((math_Copysign.f (fquo (fofi t152) (fofi t153)) 13830554455654793216).bind fun t154 => (some (t154, true))) else (some (fquo (fofi t152) (fofi t153), true))) else (none))) = some (r1, r2) := H
                have A31 := Aside0.mk A310
                clear A310
                replace H := Option.bind_eq_some_iff.mp H
                obtain ⟨t153, A320, H⟩ := H
                replace H : (if (fquoOk (fofi t152) (fofi t153)) = true then (if t145 = true then ((math_Copysign.f (fquo (fofi t152) (fofi t153)) 13830554455654793216).bind fun t154 => (some (t154, true))) else (some (fquo (fofi t152) (fofi t153), true))) else (none)) = some (r1, r2) := H
                have A32 := Aside0.mk A320
                clear A320
                by_cases c33 : (fquoOk (fofi t152) (fofi t153)) = true
                · rw [if_pos c33] at H
                  have c33b0 := eq_true c33
                  have c33b1 : decide ((fquoOk (fofi t152) (fofi t153)) = true) = true := decide_eq_true c33
                  clear c33
                  by_cases c34 : t145 = true
                  · subst c34
                    have H1 : ((math_Copysign.f (fquo (fofi t152) (fofi t153)) 13830554455654793216).bind fun t154 => (some (t154, true))) = some (r1, r2) := by rw [if_pos rfl] at H; exact H
                    clear H
                    have H := H1
                    clear H1
                    replace H := Option.bind_eq_some_iff.mp H
                    obtain ⟨t154, A350, H⟩ := H
                    replace H : (some (t154, true)) = some (r1, r2) := H
                    have A35 := Aside0.mk A350
                    clear A350
                    simp only [Option.some.injEq, Prod.mk.injEq] at H
                    obtain ⟨rfl, rfl⟩ := H
                    go_wp2_with (first | ((with_reducible refine gate_callee (f := 95) rfl ?_); refine goesL_ (some 54) rfl rfl Try.func95 (by kernel_rfl) rfl #[.string (t146 ++ t147)] rfl (by (try simp only [List.map_toArray, List.map_cons, List.map_nil]); first | done | rfl | (simp only [List.length_drop, List.length_take]; rfl)) ?_; (with_reducible refine (ratio_value.calls kj9 (t146 ++ t147) t152 _ A31.out).mono ?_); rintro e w36 ⟨rfl, hb⟩; refine ⟨_, rfl, ?_⟩; have n0_ := Aside0.mk (below_step (by repeat (first | (with_reducible first | exact HB.out | apply below_alloc | apply pw_below_drewN | apply below_drew1) | exact HB.out)) hb); clear HB; have HB := n0_; clear n0_; (try clear hb); (try clear hb2); (try clear hk); (try clear hi)) | ((with_reducible refine gate_callee (f := 82) rfl ?_); refine goesL_ (some 58) rfl rfl Try.func82 (by kernel_rfl) rfl #[.int .i64 (t147.size : Int)] rfl (by (try simp only [List.map_toArray, List.map_cons, List.map_nil]); first | done | rfl | (simp only [List.length_drop, List.length_take]; rfl)) ?_; (with_reducible refine (ratio_ten.calls kj9 (t147.size : Int) t153 _ A32.out).mono ?_); rintro e w' ⟨rfl, ⟨nd, rfl⟩⟩; refine ⟨_, rfl, ?_⟩) | ((with_reducible refine gate_callee (f := 96) rfl ?_); refine goesL_ (some 63) rfl rfl Try.func96 (by kernel_rfl) rfl #[.float .f64 (fquo (fofi t152) (fofi t153)), .float .f64 13830554455654793216] rfl (by (try simp only [List.map_toArray, List.map_cons, List.map_nil]); first | done | rfl | (simp only [List.length_drop, List.length_take]; rfl)) ?_; (with_reducible refine (math_Copysign.calls (fquo (fofi t152) (fofi t153)) 13830554455654793216 t154 _ A35.out).mono ?_); rintro e w' ⟨rfl, ⟨nd, rfl⟩⟩; refine ⟨_, rfl, ?_⟩))
                    go_ret2
                    exact ⟨by first | rfl | (simp [errW_none, errW_some] <;> rfl) | (simp [*, errW_none, errW_some] <;> rfl), by repeat (first | (with_reducible first | exact HB.out | apply below_alloc | apply pw_below_drewN | apply below_drew1) | exact HB.out)⟩
                  · replace c34 := Bool.eq_false_iff.mpr c34
                    subst c34
                    have H1 : (some (fquo (fofi t152) (fofi t153), true)) = some (r1, r2) := by rw [if_neg (show ¬ (false = true) by decide)] at H; exact H
                    clear H
                    have H := H1
                    clear H1
                    simp only [Option.some.injEq, Prod.mk.injEq] at H
                    obtain ⟨rfl, rfl⟩ := H
                    go_wp2_with (first | ((with_reducible refine gate_callee (f := 95) rfl ?_); refine goesL_ (some 54) rfl rfl Try.func95 (by kernel_rfl) rfl #[.string (t146 ++ t147)] rfl (by (try simp only [List.map_toArray, List.map_cons, List.map_nil]); first | done | rfl | (simp only [List.length_drop, List.length_take]; rfl)) ?_; (with_reducible refine (ratio_value.calls kj9 (t146 ++ t147) t152 _ A31.out).mono ?_); rintro e w37 ⟨rfl, hb⟩; refine ⟨_, rfl, ?_⟩; have n0_ := Aside0.mk (below_step (by repeat (first | (with_reducible first | exact HB.out | apply below_alloc | apply pw_below_drewN | apply below_drew1) | exact HB.out)) hb); clear HB; have HB := n0_; clear n0_; (try clear hb); (try clear hb2); (try clear hk); (try clear hi)) | ((with_reducible refine gate_callee (f := 82) rfl ?_); refine goesL_ (some 58) rfl rfl Try.func82 (by kernel_rfl) rfl #[.int .i64 (t147.size : Int)] rfl (by (try simp only [List.map_toArray, List.map_cons, List.map_nil]); first | done | rfl | (simp only [List.length_drop, List.length_take]; rfl)) ?_; (with_reducible refine (ratio_ten.calls kj9 (t147.size : Int) t153 _ A32.out).mono ?_); rintro e w' ⟨rfl, ⟨nd, rfl⟩⟩; refine ⟨_, rfl, ?_⟩))
                    go_ret2
                    exact ⟨by first | rfl | (simp [errW_none, errW_some] <;> rfl) | (simp [*, errW_none, errW_some] <;> rfl), by repeat (first | (with_reducible first | exact HB.out | apply below_alloc | apply pw_below_drewN | apply below_drew1) | exact HB.out)⟩
                · rw [if_neg c33] at H
                  exact absurd H (by simp)
              · rw [if_neg c30] at H
                exact absurd H (by simp)
end Go.Proofs.Ytipbigdpannlcaa.PTrieFits
