/- What the law TrieRaw uses, thinned: printed by shake2.py. -/
import Derived.Test.YtipbigdpannlcaaTTrieRawPTrieFitsx0
import Derived.Test.YtipbigdpannlcaaTTrieRawPTrieFitsx1
import Derived.Test.YtipbigdpannlcaaTTrieRawPTrieFitsx8
import Derived.Test.YtipbigdpannlcaaTTrieRawPTrieFitsx10
namespace Go.Proofs.Ytipbigdpannlcaa.PTrieFits
open Go.RowKit Go.Proofs.YtipbigdpannlcaaW.PrintWords Go.Proofs.YtipbigdpannlcaaW.PrintLast Go.Proofs.YtipbigdpannlcaaW.PrintMore
attribute [local go_sem] max2_int min2_int max_two min_two max_three min_three max_four min_four
set_option linter.unusedVariables false
set_option linter.unusedSimpArgs false
def turncockref1_Digits.l0 : Nat → Int → ByteArray → Option (ByteArray)
  | 0, _, _ => none
  | k + 1, x3, x4 => if x3 > 0 then ((some (([(wrap64 (48 + (Int.tmod x3 10))) % 256] : List Int) : List Int)).bind fun y285 => (if (strOfNums y285).size + x4.size ≤ 9223372036854775807 then (turncockref1_Digits.l0 k (wrap64 (Int.tdiv x3 10)) ((strOfNums y285) ++ x4)) else (none))) else (some x4)
def turncockref1_Digits.f (k : Nat) (a0 : Int) : Option (ByteArray) := (turncockref1_Hold.f a0).bind fun t284 => (if t284 = 0 then (some (⟨#[48]⟩ : ByteArray)) else (turncockref1_Digits.l0 k t284 (⟨#[]⟩ : ByteArray)))
set_option maxHeartbeats 8000000 in
set_option maxRecDepth 100000 in
theorem turncockref1_Digits.calls (k : Nat) (a0 : Int) (r : ByteArray) (w : World) (h : turncockref1_Digits.f k a0 = some r) :
    Calls Try.prog 73 #[.int .i64 a0] w fun e w' => e = .returned (.string r) ∧ Below w.heap.size w w' := by
  have HB := Aside0.mk (Below.refl w.heap.size w)
  have H : ((turncockref1_Hold.f a0).bind fun t284 => (if t284 = 0 then (some (⟨#[48]⟩ : ByteArray)) else (turncockref1_Digits.l0 k t284 (⟨#[]⟩ : ByteArray)))) = some r := h
  clear h
  replace H := Option.bind_eq_some_iff.mp H
  obtain ⟨t284, A20, H⟩ := H
  replace H : (if t284 = 0 then (some (⟨#[48]⟩ : ByteArray)) else (turncockref1_Digits.l0 k t284 (⟨#[]⟩ : ByteArray))) = some r := H
  have A2 := Aside0.mk A20
  clear A20
  by_cases c3 : t284 = 0
  · rw [if_pos c3] at H
    have c3b0 : (t284 == 0) = true := beq_iff_eq.mpr c3
    have c3b1 : (t284 != 0) = false := bne_eq_false_iff_eq.mpr c3
    clear c3
    obtain rfl := Option.some.inj H
    go_enter Try.func73, Try.ntmps73
    go_wp2_with (first | ((with_reducible refine gate_callee (f := 80) rfl ?_); refine goesL_ (some 6) rfl rfl Try.func80 (by kernel_rfl) rfl #[.int .i64 a0] rfl (by (try simp only [List.map_toArray, List.map_cons, List.map_nil]); first | done | rfl | (simp only [List.length_drop, List.length_take]; rfl)) ?_; (with_reducible refine (turncockref1_Hold.calls a0 t284 _ A2.out).mono ?_); rintro e w' ⟨rfl, ⟨nd, rfl⟩⟩; refine ⟨_, rfl, ?_⟩))
    go_ret
    exact ⟨by first | rfl | (simp [errW_none, errW_some] <;> rfl) | (simp [*, errW_none, errW_some] <;> rfl), by repeat (first | (with_reducible first | exact HB.out | apply below_alloc | apply pw_below_drewN | apply below_drew1) | exact HB.out)⟩
  · rw [if_neg c3] at H
    have c3b0 : (t284 == 0) = false := beq_eq_false_iff_ne.mpr c3
    have c3b1 : (t284 != 0) = true := bne_iff_ne.mpr c3
    have H' := Aside0.mk H
    clear H
    go_enter Try.func73, Try.ntmps73
    go_wp2_with (first | ((with_reducible refine gate_callee (f := 80) rfl ?_); refine goesL_ (some 6) rfl rfl Try.func80 (by kernel_rfl) rfl #[.int .i64 a0] rfl (by (try simp only [List.map_toArray, List.map_cons, List.map_nil]); first | done | rfl | (simp only [List.length_drop, List.length_take]; rfl)) ?_; (with_reducible refine (turncockref1_Hold.calls a0 t284 _ A2.out).mono ?_); rintro e w' ⟨rfl, ⟨nd, rfl⟩⟩; refine ⟨_, rfl, ?_⟩))
    go_loopg [3, 4] k (fun kq v3 v4 w' => ∃ (x3_1 : Int) (x4_1 : ByteArray), v3 = .int .i64 x3_1 ∧ v4 = .string x4_1 ∧ Aside0 (turncockref1_Digits.l0 kq x3_1 x4_1 = some r) ∧ Aside0 (kq ≤ k) ∧ Aside0 (Below w.heap.size w w'))
    case atStart => exact ⟨(t284), ((⟨#[]⟩ : ByteArray)), (by first | rfl | (simp; done) | (simp [*]; done)), (by first | rfl | (simp; done) | (simp [*]; done)), H', ⟨Nat.le_refl _⟩, ⟨by repeat (first | (with_reducible first | exact HB.out | apply below_alloc | apply pw_below_drewN | apply below_drew1) | exact HB.out)⟩⟩
    case round =>
      clear H'
      try clear p2
      try clear c3
      try clear c3b0
      try clear c3b1
      obtain ⟨x3_1, x4_1, rfl, rfl, HA, HK1, HB⟩ := hrel
      cases gk with
      | zero => exact absurd HA.out (by simp [turncockref1_Digits.l0])
      | succ k1 =>
        have H := HA.out
        clear HA
        simp only [turncockref1_Digits.l0] at H
        by_cases c4 : x3_1 > 0
        · rw [if_pos c4] at H
          have c4b0 : decide (0 < x3_1) = true := decide_eq_true c4
          clear c4
          obtain ⟨y285, hy285⟩ : ∃ y_ : List Int, y_ = (([(wrap64 (48 + (Int.tmod x3_1 10))) % 256] : List Int)) := ⟨_, rfl⟩
          replace H : (if (strOfNums y285).size + x4_1.size ≤ 9223372036854775807 then (turncockref1_Digits.l0 k1 (wrap64 (Int.tdiv x3_1 10)) ((strOfNums y285) ++ x4_1)) else (none)) = some r := by first | (rw [hy285]; with_reducible exact H) | (have H2_ := (Option.bind_some _ _).symm.trans H; rw [hy285]; with_reducible exact H2_) | (have H2_ := (Option.bind_some _ _).symm.trans H; with_reducible exact H2_) | with_reducible exact H | (rw [hy285]; exact H) | exact H
          have Ny285 := Aside0.mk hy285
          clear hy285
          by_cases c5 : (strOfNums y285).size + x4_1.size ≤ 9223372036854775807
          · rw [if_pos c5] at H
            have c5b0 := eq_true c5
            have c5b1 : decide ((strOfNums y285).size + x4_1.size ≤ 9223372036854775807) = true := decide_eq_true c5
            try have c5b2 : (9223372036854775807 < (strOfNums y285).size + x4_1.size) = False := eq_false (Nat.not_lt.2 c5)
            have H' := Aside0.mk H
            clear H
            go_wp2_with (first | ((with_reducible refine gate_dst (N := 15) rfl ?_); refine Kd.R_lit (Kd.int .u8) _ 5 ?hg (N := 15) ?hd (xs := ([(wrap64 (48 + (Int.tmod x3_1 10))) % 256] : List Int)) (inner := [.int .u8 ((wrap64 (48 + (Int.tmod x3_1 10))) % 256)]) (ok := fun _ => True) (okp := fun _ => True) ?hr ?hp (fun _ hk => hk) trivial (Below.refl _ _) (Nat.le_refl _) (by simp) ?_; (case hd => rfl); (case hg => rfl); (case hr => first | (go_simp; done) | (go_simp; rfl)); (case hp => exact (Reps.one (show Kd.M (Kd.int .u8) _ _ _ ((wrap64 (48 + (Int.tmod x3_1 10))) % 256) [.int .u8 ((wrap64 (48 + (Int.tmod x3_1 10))) % 256)] from rfl) (Reps.none _ _))); intro v286 w6 ho7 hb hg_ hnew_; clear hg_ hnew_; (first | rw [← Ny285.out] at ho7 | (simp only [Int.reduceToNat] at ho7; rw [← Ny285.out] at ho7)); have n0_ := Aside0.mk (Kd.R_lower ho7 (below_size (by repeat (first | (with_reducible first | exact HB.out | apply below_alloc | apply pw_below_drewN | apply below_drew1) | exact HB.out)))); have n1_ := Aside0.mk (below_step (by repeat (first | (with_reducible first | exact HB.out | apply below_alloc | apply pw_below_drewN | apply below_drew1) | exact HB.out)) hb); clear HB; have HO287 := n0_; have HB := n1_; clear n0_ n1_; clear hb ho7; have hcv8 := own_string (P := Try.prog) Try.underlying83 Try.underlying5 Try.underlying9 (Kd.own_of_R HO287.out)))
            go_roundg k1
            case measure => have := HK1.out; omega
            case rel => exact ⟨(wrap64 (Int.tdiv x3_1 10)), ((strOfNums y285) ++ x4_1), (by first | rfl | (simp; done) | (simp [*]; done)), (by first | rfl | (simp; done) | (simp [*]; done)), H', ⟨by have := HK1.out; omega⟩, ⟨by repeat (first | (with_reducible first | exact HB.out | apply below_alloc | apply pw_below_drewN | apply below_drew1) | exact HB.out)⟩⟩
          · rw [if_neg c5] at H
            exact absurd H (by simp)
        · rw [if_neg c4] at H
          have c4b0 : decide (0 < x3_1) = false := decide_eq_false c4
          clear c4
          obtain rfl := Option.some.inj H
          go_wp2
          go_ret
          exact ⟨by first | rfl | (simp [errW_none, errW_some] <;> rfl) | (simp [*, errW_none, errW_some] <;> rfl), by repeat (first | (with_reducible first | exact HB.out | apply below_alloc | apply pw_below_drewN | apply below_drew1) | exact HB.out)⟩
def turncockref1_filled.l0 : Nat → Int → ByteArray → Option (ByteArray)
  | 0, _, _ => none
  | k + 1, x1, x5 => if (x5.size : Int) < x1 then (if 1 + x5.size ≤ 9223372036854775807 then (turncockref1_filled.l0 k x1 ((⟨#[48]⟩ : ByteArray) ++ x5)) else (none)) else (some x5)
def turncockref1_filled.f (k : Nat) (a0 : Int) (a1 : Int) : Option (ByteArray) := (turncockref1_Digits.f k a0).bind fun t288 => (turncockref1_filled.l0 k a1 t288)
set_option maxHeartbeats 8000000 in
set_option maxRecDepth 100000 in
theorem turncockref1_filled.calls (k : Nat) (a0 : Int) (a1 : Int) (r : ByteArray) (w : World) (h : turncockref1_filled.f k a0 a1 = some r) :
    Calls Try.prog 74 #[.int .i64 a0, .int .i64 a1] w fun e w' => e = .returned (.string r) ∧ Below w.heap.size w w' := by
  have HB := Aside0.mk (Below.refl w.heap.size w)
  have H : ((turncockref1_Digits.f k a0).bind fun t288 => (turncockref1_filled.l0 k a1 t288)) = some r := h
  clear h
  replace H := Option.bind_eq_some_iff.mp H
  obtain ⟨t288, A30, H⟩ := H
  replace H : (turncockref1_filled.l0 k a1 t288) = some r := H
  have A3 := Aside0.mk A30
  clear A30
  have H' := Aside0.mk H
  clear H
  go_enter Try.func74, Try.ntmps74
  go_wp2_with (first | ((with_reducible refine gate_callee (f := 73) rfl ?_); refine goesL_ (some 7) rfl rfl Try.func73 (by kernel_rfl) rfl #[.int .i64 a0] rfl (by (try simp only [List.map_toArray, List.map_cons, List.map_nil]); first | done | rfl | (simp only [List.length_drop, List.length_take]; rfl)) ?_; (with_reducible refine (turncockref1_Digits.calls k a0 t288 _ A3.out).mono ?_); rintro e w4 ⟨rfl, hb⟩; refine ⟨_, rfl, ?_⟩; have n0_ := Aside0.mk (below_step (by repeat (first | (with_reducible first | exact HB.out | apply below_alloc | apply pw_below_drewN | apply below_drew1) | exact HB.out)) hb); clear HB; have HB := n0_; clear n0_; (try clear hb); (try clear hb2); (try clear hk); (try clear hi)))
  go_loopg [5] k (fun kq v5 w' => ∃ (x5_1 : ByteArray), v5 = .string x5_1 ∧ Aside0 (turncockref1_filled.l0 kq a1 x5_1 = some r) ∧ Aside0 (kq ≤ k) ∧ Aside0 (Below w.heap.size w w'))
  case atStart => exact ⟨(t288), (by first | rfl | (simp; done) | (simp [*]; done)), H', ⟨Nat.le_refl _⟩, ⟨by repeat (first | (with_reducible first | exact HB.out | apply below_alloc | apply pw_below_drewN | apply below_drew1) | exact HB.out)⟩⟩
  case round =>
    clear H'
    try clear p2
    obtain ⟨x5_1, rfl, HA, HK1, HB⟩ := hrel
    cases gk with
    | zero => exact absurd HA.out (by simp [turncockref1_filled.l0])
    | succ k1 =>
      have H := HA.out
      clear HA
      simp only [turncockref1_filled.l0] at H
      by_cases c5 : (x5_1.size : Int) < a1
      · rw [if_pos c5] at H
        have c5b0 : decide ((x5_1.size : Int) < a1) = true := decide_eq_true c5
        clear c5
        by_cases c6 : 1 + x5_1.size ≤ 9223372036854775807
        · rw [if_pos c6] at H
          have c6b0 := eq_true c6
          have c6b1 : decide (1 + x5_1.size ≤ 9223372036854775807) = true := decide_eq_true c6
          try have c6b2 : (9223372036854775807 < 1 + x5_1.size) = False := eq_false (Nat.not_lt.2 c6)
          have H' := Aside0.mk H
          clear H
          go_wp2
          go_roundg k1
          case measure => have := HK1.out; omega
          case rel => exact ⟨((⟨#[48]⟩ : ByteArray) ++ x5_1), (by first | rfl | (simp; done) | (simp [*]; done)), H', ⟨by have := HK1.out; omega⟩, ⟨by repeat (first | (with_reducible first | exact HB.out | apply below_alloc | apply pw_below_drewN | apply below_drew1) | exact HB.out)⟩⟩
        · rw [if_neg c6] at H
          exact absurd H (by simp)
      · rw [if_neg c5] at H
        have c5b0 : decide ((x5_1.size : Int) < a1) = false := decide_eq_false c5
        clear c5
        obtain rfl := Option.some.inj H
        go_wp2
        go_ret
        exact ⟨by first | rfl | (simp [errW_none, errW_some] <;> rfl) | (simp [*, errW_none, errW_some] <;> rfl), by repeat (first | (with_reducible first | exact HB.out | apply below_alloc | apply pw_below_drewN | apply below_drew1) | exact HB.out)⟩
mutual
def turncockref1_Write.j0 : Nat → Nat → ByteArray → Option (ByteArray × Bool)
  | 0, _, _ => none
  | k + 1, x0, x4 => (math_IsInf.f x0 0).bind fun t291 => (if t291 = true then (if x4.size + 3 ≤ 9223372036854775807 then (some (x4 ++ (⟨#[105, 110, 102]⟩ : ByteArray), true)) else (none)) else ((math_Abs.f x0).bind fun t292 => (if (fge t292 4741671816366391296) = true then (some ((⟨#[]⟩ : ByteArray), false)) else (turncockref1_Write.l0 k x4 t292 0))))
def turncockref1_Write.l0 : Nat → ByteArray → Nat → Int → Option (ByteArray × Bool)
  | 0, _, _, _ => none
  | k + 1, x4, x5, x6 => if x6 ≤ 6 then ((turncockref1_ten.f k x6).bind fun t293 => (if (fmulOk x5 (fofi t293)) = true then ((math_Floor.f (fmul x5 (fofi t293))).bind fun t294 => (if (f2iOk t294) = true then (turncockref1_Write.l1 k x4 x5 x6 (f2i t294) (wrap64 ((f2i t294) - 1))) else (none))) else (none))) else (some ((⟨#[]⟩ : ByteArray), false))
def turncockref1_Write.l1 : Nat → ByteArray → Nat → Int → Int → Int → Option (ByteArray × Bool)
  | 0, _, _, _, _, _ => none
  | k + 1, x4, x5, x6, x8, x9 => if x9 ≤ (wrap64 (x8 + 1)) then (if x9 < 0 then (turncockref1_Write.j3 k x4 x5 x6 x8 x9 true) else ((turncockref1_ten.f k x6).bind fun t295 => (if t295 = 0 then (none) else (if (wrap64 (Int.tdiv x9 t295)) > 999999999 then (turncockref1_Write.j3 k x4 x5 x6 x8 x9 true) else (if (fquoOk (fofi x9) (fofi t295)) = true then (turncockref1_Write.j3 k x4 x5 x6 x8 x9 (fne (fquo (fofi x9) (fofi t295)) x5)) else (none)))))) else (turncockref1_Write.l0 k x4 x5 (wrap64 (x6 + 1)))
def turncockref1_Write.j3 : Nat → ByteArray → Nat → Int → Int → Int → Bool → Option (ByteArray × Bool)
  | 0, _, _, _, _, _, _ => none
  | k + 1, x4, x5, x6, x8, x9, x61 => if x61 = true then (turncockref1_Write.l1 k x4 x5 x6 x8 (wrap64 (x9 + 1))) else ((turncockref1_ten.f k x6).bind fun t296 => (if t296 = 0 then (none) else ((turncockref1_Digits.f k (wrap64 (Int.tdiv x9 t296))).bind fun t297 => (if x4.size + t297.size ≤ 9223372036854775807 then (if x6 > 0 then (if x4.size + t297.size + 1 ≤ 9223372036854775807 then ((turncockref1_ten.f k x6).bind fun t298 => (if t298 = 0 then (none) else ((turncockref1_filled.f k (Int.tmod x9 t298) x6).bind fun t299 => (if x4.size + t297.size + 1 + t299.size ≤ 9223372036854775807 then (some (((x4 ++ t297) ++ (⟨#[46]⟩ : ByteArray)) ++ t299, true)) else (none))))) else (none)) else (some (x4 ++ t297, true))) else (none)))))
end
def turncockref1_Write.f (k : Nat) (a0 : Nat) : Option (ByteArray × Bool) := (math_IsNaN.f a0).bind fun t289 => (if t289 = true then (some ((⟨#[110, 97, 110]⟩ : ByteArray), true)) else ((math_Signbit.f a0).bind fun t290 => (if t290 = true then (turncockref1_Write.j0 k a0 (⟨#[45]⟩ : ByteArray)) else (turncockref1_Write.j0 k a0 (⟨#[]⟩ : ByteArray)))))
set_option maxHeartbeats 8000000 in
set_option maxRecDepth 100000 in
theorem turncockref1_Write.calls (k : Nat) (a0 : Nat) (r1 : ByteArray) (r2 : Bool) (w : World) (h : turncockref1_Write.f k a0 = some (r1, r2)) :
    Calls Try.prog 62 #[.float .f64 a0] w fun e w' => e = .returned (.tuple #[.string r1, .bool r2]) ∧ Below w.heap.size w w' := by
  have HB := Aside0.mk (Below.refl w.heap.size w)
  have H : ((math_IsNaN.f a0).bind fun t289 => (if t289 = true then (some ((⟨#[110, 97, 110]⟩ : ByteArray), true)) else ((math_Signbit.f a0).bind fun t290 => (if t290 = true then (turncockref1_Write.j0 k a0 (⟨#[45]⟩ : ByteArray)) else (turncockref1_Write.j0 k a0 (⟨#[]⟩ : ByteArray)))))) = some (r1, r2) := h
  clear h
  replace H := Option.bind_eq_some_iff.mp H
  obtain ⟨t289, A20, H⟩ := H
  replace H : (if t289 = true then (some ((⟨#[110, 97, 110]⟩ : ByteArray), true)) else ((math_Signbit.f a0).bind fun t290 => (if t290 = true then (turncockref1_Write.j0 k a0 (⟨#[45]⟩ : ByteArray)) else (turncockref1_Write.j0 k a0 (⟨#[]⟩ : ByteArray))))) = some (r1, r2) := H
  have A2 := Aside0.mk A20
  clear A20
  by_cases c3 : t289 = true
  · subst c3
    have H1 : (some ((⟨#[110, 97, 110]⟩ : ByteArray), true)) = some (r1, r2) := by rw [if_pos rfl] at H; exact H
    clear H
    have H := H1
    clear H1
    simp only [Option.some.injEq, Prod.mk.injEq] at H
    obtain ⟨rfl, rfl⟩ := H
    go_enter Try.func62, Try.ntmps62
    go_wp2_with (first | ((with_reducible refine gate_callee (f := 68) rfl ?_); refine goesL_ (some 12) rfl rfl Try.func68 (by kernel_rfl) rfl #[.float .f64 a0] rfl (by (try simp only [List.map_toArray, List.map_cons, List.map_nil]); first | done | rfl | (simp only [List.length_drop, List.length_take]; rfl)) ?_; (with_reducible refine (math_IsNaN.calls a0 true _ A2.out).mono ?_); rintro e w' ⟨rfl, ⟨nd, rfl⟩⟩; refine ⟨_, rfl, ?_⟩))
    go_ret2
    exact ⟨by first | rfl | (simp [errW_none, errW_some] <;> rfl) | (simp [*, errW_none, errW_some] <;> rfl), by repeat (first | (with_reducible first | exact HB.out | apply below_alloc | apply pw_below_drewN | apply below_drew1) | exact HB.out)⟩
  · replace c3 := Bool.eq_false_iff.mpr c3
    subst c3
    have H1 : ((math_Signbit.f a0).bind fun t290 => (if t290 = true then (turncockref1_Write.j0 k a0 (⟨#[45]⟩ : ByteArray)) else (turncockref1_Write.j0 k a0 (⟨#[]⟩ : ByteArray)))) = some (r1, r2) := by rw [if_neg (show ¬ (false = true) by decide)] at H; exact H
    clear H
    have H := H1
    clear H1
    replace H := Option.bind_eq_some_iff.mp H
    obtain ⟨t290, A40, H⟩ := H
    replace H : (if t290 = true then (turncockref1_Write.j0 k a0 (⟨#[45]⟩ : ByteArray)) else (turncockref1_Write.j0 k a0 (⟨#[]⟩ : ByteArray))) = some (r1, r2) := H
    have A4 := Aside0.mk A40
    clear A40
    have HC5 := Aside0.mk H
    clear H
    go_enter Try.func62, Try.ntmps62
    go_upto_if 14 with (first | ((with_reducible refine gate_callee (f := 68) rfl ?_); refine goesL_ (some 12) rfl rfl Try.func68 (by kernel_rfl) rfl #[.float .f64 a0] rfl (by (try simp only [List.map_toArray, List.map_cons, List.map_nil]); first | done | rfl | (simp only [List.length_drop, List.length_take]; rfl)) ?_; (with_reducible refine (math_IsNaN.calls a0 false _ A2.out).mono ?_); rintro e w' ⟨rfl, ⟨nd, rfl⟩⟩; refine ⟨_, rfl, ?_⟩) | ((with_reducible refine gate_callee (f := 69) rfl ?_); refine goesL_ (some 14) rfl rfl Try.func69 (by kernel_rfl) rfl #[.float .f64 a0] rfl (by (try simp only [List.map_toArray, List.map_cons, List.map_nil]); first | done | rfl | (simp only [List.length_drop, List.length_take]; rfl)) ?_; (with_reducible refine (math_Signbit.calls a0 t290 _ A4.out).mono ?_); rintro e w' ⟨rfl, ⟨nd, rfl⟩⟩; refine ⟨_, rfl, ?_⟩))
    (try simp only [Act.put, List.setIfInBounds_toArray, List.set_cons_zero, List.set_cons_succ])
    go_cut [4] (fun v4 wc => ∃ (kq : Nat) (x4_4 : ByteArray), v4 = .string x4_4 ∧ Aside0 (turncockref1_Write.j0 kq a0 x4_4 = some (r1, r2)) ∧ Aside0 (kq ≤ k) ∧ Aside0 (Below w.heap.size w wc))
    case first =>
      have H := HC5.out
      clear HC5
      by_cases c6 : t290 = true
      · subst c6
        have H1 : (turncockref1_Write.j0 k a0 (⟨#[45]⟩ : ByteArray)) = some (r1, r2) := by rw [if_pos rfl] at H; exact H
        clear H
        have H := H1
        clear H1
        have H' := Aside0.mk H
        clear H
        go_wp2
        go_meet
        case rel => exact ⟨_, ((⟨#[45]⟩ : ByteArray)), (by first | rfl | (simp; done) | (simp [*]; done)), H', ⟨by first | omega | exact Nat.le_refl _⟩, ⟨by repeat (first | (with_reducible first | exact HB.out | apply below_alloc | apply pw_below_drewN | apply below_drew1) | exact HB.out)⟩⟩
      · replace c6 := Bool.eq_false_iff.mpr c6
        subst c6
        have H1 : (turncockref1_Write.j0 k a0 (⟨#[]⟩ : ByteArray)) = some (r1, r2) := by rw [if_neg (show ¬ (false = true) by decide)] at H; exact H
        clear H
        have H := H1
        clear H1
        have H' := Aside0.mk H
        clear H
        go_wp2
        go_meet
        case rel => exact ⟨_, ((⟨#[]⟩ : ByteArray)), (by first | rfl | (simp; done) | (simp [*]; done)), H', ⟨by first | omega | exact Nat.le_refl _⟩, ⟨by repeat (first | (with_reducible first | exact HB.out | apply below_alloc | apply pw_below_drewN | apply below_drew1) | exact HB.out)⟩⟩
    case rest =>
      clear HC5
      try clear p2
      try clear c3
      try clear c6
      obtain ⟨kq, x4_4, rfl, HA, HJ4, HB⟩ := hcut
      cases kq with
      | zero => exact absurd HA.out (by simp [turncockref1_Write.j0])
      | succ kj4 =>
        have H := HA.out
        clear HA
        simp only [turncockref1_Write.j0] at H
        replace H := Option.bind_eq_some_iff.mp H
        obtain ⟨t291, A70, H⟩ := H
        replace H : (if t291 = true then (if x4_4.size + 3 ≤ 9223372036854775807 then (some (x4_4 ++ (⟨#[105, 110, 102]⟩ : ByteArray), true)) else (none)) else ((math_Abs.f a0).bind fun t292 => (if (fge t292 4741671816366391296) = true then (some ((⟨#[]⟩ : ByteArray), false)) else (turncockref1_Write.l0 kj4 x4_4 t292 0)))) = some (r1, r2) := H
        have A7 := Aside0.mk A70
        clear A70
        by_cases c8 : t291 = true
        · subst c8
          have H1 : (if x4_4.size + 3 ≤ 9223372036854775807 then (some (x4_4 ++ (⟨#[105, 110, 102]⟩ : ByteArray), true)) else (none)) = some (r1, r2) := by rw [if_pos rfl] at H; exact H
          clear H
          have H := H1
          clear H1
          by_cases c9 : x4_4.size + 3 ≤ 9223372036854775807
          · rw [if_pos c9] at H
            have c9b0 := eq_true c9
            have c9b1 : decide (x4_4.size + 3 ≤ 9223372036854775807) = true := decide_eq_true c9
            try have c9b2 : (9223372036854775807 < x4_4.size + 3) = False := eq_false (Nat.not_lt.2 c9)
            simp only [Option.some.injEq, Prod.mk.injEq] at H
            obtain ⟨rfl, rfl⟩ := H
            go_wp2_with (first | ((with_reducible refine gate_callee (f := 70) rfl ?_); refine goesL_ (some 16) rfl rfl Try.func70 (by kernel_rfl) rfl #[.float .f64 a0, .int .i64 0] rfl (by (try simp only [List.map_toArray, List.map_cons, List.map_nil]); first | done | rfl | (simp only [List.length_drop, List.length_take]; rfl)) ?_; (with_reducible refine (math_IsInf.calls a0 0 true _ A7.out).mono ?_); rintro e w' ⟨rfl, ⟨nd, rfl⟩⟩; refine ⟨_, rfl, ?_⟩))
            go_ret2
            exact ⟨by first | rfl | (simp [errW_none, errW_some] <;> rfl) | (simp [*, errW_none, errW_some] <;> rfl), by repeat (first | (with_reducible first | exact HB.out | apply below_alloc | apply pw_below_drewN | apply below_drew1) | exact HB.out)⟩
          · rw [if_neg c9] at H
            exact absurd H (by simp)
        · replace c8 := Bool.eq_false_iff.mpr c8
          subst c8
          have H1 : ((math_Abs.f a0).bind fun t292 => (if (fge t292 4741671816366391296) = true then (some ((⟨#[]⟩ : ByteArray), false)) else (turncockref1_Write.l0 kj4 x4_4 t292 0))) = some (r1, r2) := by rw [if_neg (show ¬ (false = true) by decide)] at H; exact H
          clear H
          have H := H1
          clear H1
          replace H := Option.bind_eq_some_iff.mp H
          obtain ⟨t292, A100, H⟩ := H
          replace H : (if (fge t292 4741671816366391296) = true then (some ((⟨#[]⟩ : ByteArray), false)) else (turncockref1_Write.l0 kj4 x4_4 t292 0)) = some (r1, r2) := H
          have A10 := Aside0.mk A100
          clear A100
          by_cases c11 : (fge t292 4741671816366391296) = true
          · rw [if_pos c11] at H
            have c11b0 : (fge t292 4741671816366391296) = true := c11
            clear c11
            simp only [Option.some.injEq, Prod.mk.injEq] at H
            obtain ⟨rfl, rfl⟩ := H
            go_wp2_with (first | ((with_reducible refine gate_callee (f := 70) rfl ?_); refine goesL_ (some 16) rfl rfl Try.func70 (by kernel_rfl) rfl #[.float .f64 a0, .int .i64 0] rfl (by (try simp only [List.map_toArray, List.map_cons, List.map_nil]); first | done | rfl | (simp only [List.length_drop, List.length_take]; rfl)) ?_; (with_reducible refine (math_IsInf.calls a0 0 false _ A7.out).mono ?_); rintro e w' ⟨rfl, ⟨nd, rfl⟩⟩; refine ⟨_, rfl, ?_⟩) | ((with_reducible refine gate_callee (f := 71) rfl ?_); refine goesL_ (some 20) rfl rfl Try.func71 (by kernel_rfl) rfl #[.float .f64 a0] rfl (by (try simp only [List.map_toArray, List.map_cons, List.map_nil]); first | done | rfl | (simp only [List.length_drop, List.length_take]; rfl)) ?_; (with_reducible refine (math_Abs.calls a0 t292 _ A10.out).mono ?_); rintro e w' ⟨rfl, ⟨nd, rfl⟩⟩; refine ⟨_, rfl, ?_⟩))
            go_ret2
            exact ⟨by first | rfl | (simp [errW_none, errW_some] <;> rfl) | (simp [*, errW_none, errW_some] <;> rfl), by repeat (first | (with_reducible first | exact HB.out | apply below_alloc | apply pw_below_drewN | apply below_drew1) | exact HB.out)⟩
          · rw [if_neg c11] at H
            have c11b0 : (fge t292 4741671816366391296) = false := by simpa using c11
            clear c11
            have H' := Aside0.mk H
            clear H
            go_wp2_with (first | ((with_reducible refine gate_callee (f := 70) rfl ?_); refine goesL_ (some 16) rfl rfl Try.func70 (by kernel_rfl) rfl #[.float .f64 a0, .int .i64 0] rfl (by (try simp only [List.map_toArray, List.map_cons, List.map_nil]); first | done | rfl | (simp only [List.length_drop, List.length_take]; rfl)) ?_; (with_reducible refine (math_IsInf.calls a0 0 false _ A7.out).mono ?_); rintro e w' ⟨rfl, ⟨nd, rfl⟩⟩; refine ⟨_, rfl, ?_⟩) | ((with_reducible refine gate_callee (f := 71) rfl ?_); refine goesL_ (some 20) rfl rfl Try.func71 (by kernel_rfl) rfl #[.float .f64 a0] rfl (by (try simp only [List.map_toArray, List.map_cons, List.map_nil]); first | done | rfl | (simp only [List.length_drop, List.length_take]; rfl)) ?_; (with_reducible refine (math_Abs.calls a0 t292 _ A10.out).mono ?_); rintro e w' ⟨rfl, ⟨nd, rfl⟩⟩; refine ⟨_, rfl, ?_⟩))
            go_loopg [6] kj4 (fun kq v6 w' => ∃ (x6_2 : Int), v6 = .int .i64 x6_2 ∧ Aside0 (turncockref1_Write.l0 kq x4_4 t292 x6_2 = some (r1, r2)) ∧ Aside0 (kq ≤ kj4) ∧ Aside0 (Below w.heap.size w w'))
            case atStart => exact ⟨(0), (by first | rfl | (simp; done) | (simp [*]; done)), H', ⟨Nat.le_refl _⟩, ⟨by repeat (first | (with_reducible first | exact HB.out | apply below_alloc | apply pw_below_drewN | apply below_drew1) | exact HB.out)⟩⟩
            case round =>
              clear H'
              try clear c1
              try clear p2
              try clear c3
              try clear c6
              try clear c7
              try clear c8
              try clear c9
              try clear c9b0
              try clear c9b1
              try clear c9b2
              try clear c11
              try clear c11b0
              try clear p2
              obtain ⟨x6_2, rfl, HA, HK2, HB⟩ := hrel
              cases gk with
              | zero => exact absurd HA.out (by simp [turncockref1_Write.l0])
              | succ k2 =>
                have H := HA.out
                clear HA
                simp only [turncockref1_Write.l0] at H
                by_cases c12 : x6_2 ≤ 6
                · rw [if_pos c12] at H
                  have c12b0 : decide (x6_2 ≤ 6) = true := decide_eq_true c12
                  clear c12
                  replace H := Option.bind_eq_some_iff.mp H
                  obtain ⟨t293, A130, H⟩ := H
                  replace H : (if (fmulOk t292 (fofi t293)) = true then ((math_Floor.f (fmul t292 (fofi t293))).bind fun t294 => (if (f2iOk t294) = true then (turncockref1_Write.l1 k2 x4_4 t292 x6_2 (f2i t294) (wrap64 ((f2i t294) - 1))) else (none))) else (none)) = some (r1, r2) := H
                  have A13 := Aside0.mk A130
                  clear A130
                  by_cases c14 : (fmulOk t292 (fofi t293)) = true
                  · rw [if_pos c14] at H
                    have c14b0 := eq_true c14
                    have c14b1 : decide ((fmulOk t292 (fofi t293)) = true) = true := decide_eq_true c14
                    clear c14
                    replace H := Option.bind_eq_some_iff.mp H
                    obtain ⟨t294, A150, H⟩ := H
                    replace H : (if (f2iOk t294) = true then (turncockref1_Write.l1 k2 x4_4 t292 x6_2 (f2i t294) (wrap64 ((f2i t294) - 1))) else (none)) = some (r1, r2) := H
                    have A15 := Aside0.mk A150
                    clear A150
                    by_cases c16 : (f2iOk t294) = true
                    · rw [if_pos c16] at H
                      have c16b0 := eq_true c16
                      have c16b1 : decide ((f2iOk t294) = true) = true := decide_eq_true c16
                      clear c16
                      have H' := Aside0.mk H
                      clear H
                      go_wp2_with (first | ((with_reducible refine gate_callee (f := 53) rfl ?_); refine goesL_ (some 29) rfl rfl Try.func53 (by kernel_rfl) rfl #[.int .i64 x6_2] rfl (by (try simp only [List.map_toArray, List.map_cons, List.map_nil]); first | done | rfl | (simp only [List.length_drop, List.length_take]; rfl)) ?_; (with_reducible refine (turncockref1_ten.calls k2 x6_2 t293 _ A13.out).mono ?_); rintro e w' ⟨rfl, ⟨nd, rfl⟩⟩; refine ⟨_, rfl, ?_⟩) | ((with_reducible refine gate_callee (f := 72) rfl ?_); refine goesL_ (some 33) rfl rfl Try.func72 (by kernel_rfl) rfl #[.float .f64 (fmul t292 (fofi t293))] rfl (by (try simp only [List.map_toArray, List.map_cons, List.map_nil]); first | done | rfl | (simp only [List.length_drop, List.length_take]; rfl)) ?_; (with_reducible refine (math_Floor.calls (fmul t292 (fofi t293)) t294 _ A15.out).mono ?_); rintro e w' ⟨rfl, ⟨nd, rfl⟩⟩; refine ⟨_, rfl, ?_⟩))
                      go_loopg [9] k2 (fun kq v9 w' => ∃ (x9_3 : Int), v9 = .int .i64 x9_3 ∧ Aside0 (turncockref1_Write.l1 kq x4_4 t292 x6_2 (f2i t294) x9_3 = some (r1, r2)) ∧ Aside0 (kq ≤ k2) ∧ Aside0 (Below w.heap.size w w'))
                      case atStart => exact ⟨(wrap64 ((f2i t294) - 1)), (by first | rfl | (simp; done) | (simp [*]; done)), H', ⟨Nat.le_refl _⟩, ⟨by repeat (first | (with_reducible first | exact HB.out | apply below_alloc | apply pw_below_drewN | apply below_drew1) | exact HB.out)⟩⟩
                      case round =>
                        clear H'
                        try clear c1
                        try clear p2
                        try clear c3
                        try clear c5
                        try clear c6
                        try clear p6
                        try clear c7
                        try clear c8
                        try clear c9
                        try clear c9b0
                        try clear c9b1
                        try clear c9b2
                        try clear c11
                        try clear c11b0
                        try clear c12
                        try clear c12b0
                        try clear c14
                        try clear c14b0
                        try clear c14b1
                        try clear c16
                        try clear c16b0
                        try clear c16b1
                        try clear p2
                        obtain ⟨x9_3, rfl, HA, HK3, HB⟩ := hrel
                        cases gk with
                        | zero => exact absurd HA.out (by simp [turncockref1_Write.l1])
                        | succ k3 =>
                          have H := HA.out
                          clear HA
                          simp only [turncockref1_Write.l1] at H
                          by_cases c17 : x9_3 ≤ (wrap64 ((f2i t294) + 1))
                          · rw [if_pos c17] at H
                            have c17b0 : decide (x9_3 ≤ (wrap64 ((f2i t294) + 1))) = true := decide_eq_true c17
                            clear c17
                            have HC18 := Aside0.mk H
                            clear H
                            go_upto_region 19 with (fail)
                            go_cut [61] (fun v61 wc => ∃ (kq : Nat) (x61_17 : Bool), v61 = .bool x61_17 ∧ Aside0 (turncockref1_Write.j3 kq x4_4 t292 x6_2 (f2i t294) x9_3 x61_17 = some (r1, r2)) ∧ Aside0 (kq ≤ k3) ∧ Aside0 (Below w.heap.size w wc))
                            case first =>
                              have H := HC18.out
                              clear HC18
                              by_cases c19 : x9_3 < 0
                              · rw [if_pos c19] at H
                                have c19b0 : decide (x9_3 < 0) = true := decide_eq_true c19
                                clear c19
                                (first | rw [c19b0] | (simp only [i64_w, i32_w]; rw [c19b0]) | skip)
                                have H' := Aside0.mk H
                                clear H
                                go_wp2
                                go_meet
                                case rel => exact ⟨_, (true), (by first | rfl | (simp; done) | (simp [*]; done)), H', ⟨by have := HJ4.out; have := HK2.out; have := HK3.out; first | omega | exact Nat.le_refl _⟩, ⟨by repeat (first | (with_reducible first | exact HB.out | apply below_alloc | apply pw_below_drewN | apply below_drew1) | exact HB.out)⟩⟩
                              · rw [if_neg c19] at H
                                have c19b0 : decide (x9_3 < 0) = false := decide_eq_false c19
                                clear c19
                                (first | rw [c19b0] | (simp only [i64_w, i32_w]; rw [c19b0]) | skip)
                                replace H := Option.bind_eq_some_iff.mp H
                                obtain ⟨t295, A200, H⟩ := H
                                replace H : (if t295 = 0 then (none) else (if (wrap64 (Int.tdiv x9_3 t295)) > 999999999 then (turncockref1_Write.j3 k3 x4_4 t292 x6_2 (f2i t294) x9_3 true) else (if (fquoOk (fofi x9_3) (fofi t295)) = true then (turncockref1_Write.j3 k3 x4_4 t292 x6_2 (f2i t294) x9_3 (fne (fquo (fofi x9_3) (fofi t295)) t292)) else (none)))) = some (r1, r2) := H
                                have A20 := Aside0.mk A200
                                clear A200
                                by_cases c21 : t295 = 0
                                · rw [if_pos c21] at H
                                  exact absurd H (by simp)
                                · rw [if_neg c21] at H
                                  have c21b0 : (t295 == 0) = false := beq_eq_false_iff_ne.mpr c21
                                  have c21b1 : (t295 != 0) = true := bne_iff_ne.mpr c21
                                  by_cases c22 : (wrap64 (Int.tdiv x9_3 t295)) > 999999999
                                  · rw [if_pos c22] at H
                                    have c22b0 : decide (999999999 < (wrap64 (Int.tdiv x9_3 t295))) = true := decide_eq_true c22
                                    clear c22
                                    have H' := Aside0.mk H
                                    clear H
                                    go_wp2_with (first | (go_at_call 53; (with_reducible refine (turncockref1_ten.calls k3 x6_2 t295 _ A20.out).mono ?_); rintro e w' ⟨rfl, ⟨nd, rfl⟩⟩))
                                    go_meet
                                    case rel => exact ⟨_, (true), (by first | rfl | (simp; done) | (simp [*]; done)), H', ⟨by have := HJ4.out; have := HK2.out; have := HK3.out; first | omega | exact Nat.le_refl _⟩, ⟨by repeat (first | (with_reducible first | exact HB.out | apply below_alloc | apply pw_below_drewN | apply below_drew1) | exact HB.out)⟩⟩
                                  · rw [if_neg c22] at H
                                    have c22b0 : decide (999999999 < (wrap64 (Int.tdiv x9_3 t295))) = false := decide_eq_false c22
                                    clear c22
                                    by_cases c23 : (fquoOk (fofi x9_3) (fofi t295)) = true
                                    · rw [if_pos c23] at H
                                      have c23b0 := eq_true c23
                                      have c23b1 : decide ((fquoOk (fofi x9_3) (fofi t295)) = true) = true := decide_eq_true c23
                                      clear c23
                                      have H' := Aside0.mk H
                                      clear H
                                      go_wp2_with (first | (go_at_call 53; (with_reducible refine (turncockref1_ten.calls k3 x6_2 t295 _ A20.out).mono ?_); rintro e w' ⟨rfl, ⟨nd, rfl⟩⟩))
                                      go_meet
                                      case rel => exact ⟨_, ((fne (fquo (fofi x9_3) (fofi t295)) t292)), (by first | rfl | (simp; done) | (simp [*]; done)), H', ⟨by have := HJ4.out; have := HK2.out; have := HK3.out; first | omega | exact Nat.le_refl _⟩, ⟨by repeat (first | (with_reducible first | exact HB.out | apply below_alloc | apply pw_below_drewN | apply below_drew1) | exact HB.out)⟩⟩
                                    · rw [if_neg c23] at H
                                      exact absurd H (by simp)
                            case rest =>
                              clear HC18
                              try clear c1
                              try clear c2
                              try clear p2
                              try clear c3
                              try clear c5
                              try clear c6
                              try clear p6
                              try clear c7
                              try clear c8
                              try clear c9
                              try clear c9b0
                              try clear c9b1
                              try clear c9b2
                              try clear c11
                              try clear c11b0
                              try clear c12
                              try clear c12b0
                              try clear c14
                              try clear c14b0
                              try clear c14b1
                              try clear c16
                              try clear c16b0
                              try clear c16b1
                              try clear c17
                              try clear c17b0
                              try clear c19
                              try clear c19b0
                              try clear c21
                              try clear c21b0
                              try clear c21b1
                              try clear c22
                              try clear c22b0
                              try clear c23
                              try clear c23b0
                              try clear c23b1
                              try clear p2
                              try clear p6
                              obtain ⟨kq, x61_17, rfl, HA, HJ17, HB⟩ := hcut
                              cases kq with
                              | zero => exact absurd HA.out (by simp [turncockref1_Write.j3])
                              | succ kj17 =>
                                have H := HA.out
                                clear HA
                                simp only [turncockref1_Write.j3] at H
                                by_cases c24 : x61_17 = true
                                · subst c24
                                  have H1 : (turncockref1_Write.l1 kj17 x4_4 t292 x6_2 (f2i t294) (wrap64 (x9_3 + 1))) = some (r1, r2) := by rw [if_pos rfl] at H; exact H
                                  clear H
                                  have H := H1
                                  clear H1
                                  have H' := Aside0.mk H
                                  clear H
                                  go_wp2
                                  go_roundg kj17
                                  case measure => have := HJ4.out; have := HK2.out; have := HK3.out; have := HJ17.out; omega
                                  case rel => exact ⟨(wrap64 (x9_3 + 1)), (by first | rfl | (simp; done) | (simp [*]; done)), H', ⟨by have := HJ4.out; have := HK2.out; have := HK3.out; have := HJ17.out; omega⟩, ⟨by repeat (first | (with_reducible first | exact HB.out | apply below_alloc | apply pw_below_drewN | apply below_drew1) | exact HB.out)⟩⟩
                                · replace c24 := Bool.eq_false_iff.mpr c24
                                  subst c24
                                  have H1 : ((turncockref1_ten.f kj17 x6_2).bind fun t296 => (if t296 = 0 then (none) else ((turncockref1_Digits.f kj17 (wrap64 (Int.tdiv x9_3 t296))).bind fun t297 => (if x4_4.size + t297.size ≤ 9223372036854775807 then (if x6_2 > 0 then (if x4_4.size + t297.size + 1 ≤ 9223372036854775807 then ((turncockref1_ten.f kj17 x6_2).bind fun t298 => (if t298 = 0 then (none) else ((turncockref1_filled.f kj17 (Int.tmod x9_3 t298) x6_2).bind fun t299 => (if x4_4.size + t297.size + 1 + t299.size ≤ 9223372036854775807 then (some (((x4_4 ++ t297) ++ (⟨#[46]⟩ : ByteArray)) ++ t299, true)) else (none))))) else (none)) else (some (x4_4 ++ t297, true))) else (none))))) = some (r1, r2) := by rw [if_neg (show ¬ (false = true) by decide)] at H; exact H
                                  clear H
                                  have H := H1
                                  clear H1
                                  replace H := Option.bind_eq_some_iff.mp H
                                  obtain ⟨t296, A250, H⟩ := H
                                  replace H : (if t296 = 0 then (none) else ((turncockref1_Digits.f kj17 (wrap64 (Int.tdiv x9_3 t296))).bind fun t297 => (if x4_4.size + t297.size ≤ 9223372036854775807 then (if x6_2 > 0 then (if x4_4.size + t297.size + 1 ≤ 9223372036854775807 then ((turncockref1_ten.f kj17 x6_2).bind fun t298 => (if t298 = 0 then (none) else ((turncockref1_filled.f kj17 (Int.tmod x9_3 t298) x6_2).bind fun t299 => (if x4_4.size + t297.size + 1 + t299.size ≤ 9223372036854775807 then (some (((x4_4 ++ t297) ++ (⟨#[46]⟩ : ByteArray)) ++ t299, true)) else (none))))) else (none)) else (some (x4_4 ++ t297, true))) else (none)))) = some (r1, r2) := H
                                  have A25 := Aside0.mk A250
                                  clear A250
                                  by_cases c26 : t296 = 0
                                  · rw [if_pos c26] at H
                                    exact absurd H (by simp)
                                  · rw [if_neg c26] at H
                                    have c26b0 : (t296 == 0) = false := beq_eq_false_iff_ne.mpr c26
                                    have c26b1 : (t296 != 0) = true := bne_iff_ne.mpr c26
                                    replace H := Option.bind_eq_some_iff.mp H
                                    obtain ⟨t297, A270, H⟩ := H
                                    replace H : (if x4_4.size + t297.size ≤ 9223372036854775807 then (if x6_2 > 0 then (if x4_4.size + t297.size + 1 ≤ 9223372036854775807 then ((turncockref1_ten.f kj17 x6_2).bind fun t298 => (if t298 = 0 then (none) else ((turncockref1_filled.f kj17 (Int.tmod x9_3 t298) x6_2).bind fun t299 => (if x4_4.size + t297.size + 1 + t299.size ≤ 9223372036854775807 then (some (((x4_4 ++ t297) ++ (⟨#[46]⟩ : ByteArray)) ++ t299, true)) else (none))))) else (none)) else (some (x4_4 ++ t297, true))) else (none)) = some (r1, r2) := H
                                    have A27 := Aside0.mk A270
                                    clear A270
                                    by_cases c28 : x4_4.size + t297.size ≤ 9223372036854775807
                                    · rw [if_pos c28] at H
                                      have c28b0 := eq_true c28
                                      have c28b1 : decide (x4_4.size + t297.size ≤ 9223372036854775807) = true := decide_eq_true c28
                                      try have c28b2 : (9223372036854775807 < x4_4.size + t297.size) = False := eq_false (Nat.not_lt.2 c28)
                                      by_cases c29 : x6_2 > 0
                                      · rw [if_pos c29] at H
                                        have c29b0 : decide (0 < x6_2) = true := decide_eq_true c29
                                        clear c29
                                        by_cases c30 : x4_4.size + t297.size + 1 ≤ 9223372036854775807
                                        · rw [if_pos c30] at H
                                          have c30b0 := eq_true c30
                                          have c30b1 : decide (x4_4.size + t297.size + 1 ≤ 9223372036854775807) = true := decide_eq_true c30
                                          try have c30b2 : (9223372036854775807 < x4_4.size + t297.size + 1) = False := eq_false (Nat.not_lt.2 c30)
                                          replace H := Option.bind_eq_some_iff.mp H
                                          obtain ⟨t298, A310, H⟩ := H
                                          replace H : (if t298 = 0 then (none) else ((turncockref1_filled.f kj17 (Int.tmod x9_3 t298) x6_2).bind fun t299 => (if x4_4.size + t297.size + 1 + t299.size ≤ 9223372036854775807 then (some (((x4_4 ++ t297) ++ (⟨#[46]⟩ : ByteArray)) ++ t299, true)) else (none)))) = some (r1, r2) := H
                                          have A31 := Aside0.mk A310
                                          clear A310
                                          by_cases c32 : t298 = 0
                                          · rw [if_pos c32] at H
                                            exact absurd H (by simp)
                                          · rw [if_neg c32] at H
                                            have c32b0 : (t298 == 0) = false := beq_eq_false_iff_ne.mpr c32
                                            have c32b1 : (t298 != 0) = true := bne_iff_ne.mpr c32
                                            replace H := Option.bind_eq_some_iff.mp H
                                            obtain ⟨t299, A330, H⟩ := H
                                            replace H : (if x4_4.size + t297.size + 1 + t299.size ≤ 9223372036854775807 then (some (((x4_4 ++ t297) ++ (⟨#[46]⟩ : ByteArray)) ++ t299, true)) else (none)) = some (r1, r2) := H
                                            have A33 := Aside0.mk A330
                                            clear A330
                                            by_cases c34 : x4_4.size + t297.size + 1 + t299.size ≤ 9223372036854775807
                                            · rw [if_pos c34] at H
                                              have c34b0 := eq_true c34
                                              have c34b1 : decide (x4_4.size + t297.size + 1 + t299.size ≤ 9223372036854775807) = true := decide_eq_true c34
                                              try have c34b2 : (9223372036854775807 < x4_4.size + t297.size + 1 + t299.size) = False := eq_false (Nat.not_lt.2 c34)
                                              simp only [Option.some.injEq, Prod.mk.injEq] at H
                                              obtain ⟨rfl, rfl⟩ := H
                                              go_wp2_with (first | ((with_reducible refine gate_callee (f := 53) rfl ?_); refine goesL_ (some 65) rfl rfl Try.func53 (by kernel_rfl) rfl #[.int .i64 x6_2] rfl (by (try simp only [List.map_toArray, List.map_cons, List.map_nil]); first | done | rfl | (simp only [List.length_drop, List.length_take]; rfl)) ?_; (with_reducible refine (turncockref1_ten.calls kj17 x6_2 t296 _ A25.out).mono ?_); rintro e w' ⟨rfl, ⟨nd, rfl⟩⟩; refine ⟨_, rfl, ?_⟩) | ((with_reducible refine gate_callee (f := 73) rfl ?_); refine goesL_ (some 67) rfl rfl Try.func73 (by kernel_rfl) rfl #[.int .i64 (wrap64 (Int.tdiv x9_3 t296))] rfl (by (try simp only [List.map_toArray, List.map_cons, List.map_nil]); first | done | rfl | (simp only [List.length_drop, List.length_take]; rfl)) ?_; (with_reducible refine (turncockref1_Digits.calls kj17 (wrap64 (Int.tdiv x9_3 t296)) t297 _ A27.out).mono ?_); rintro e w35 ⟨rfl, hb⟩; refine ⟨_, rfl, ?_⟩; have n0_ := Aside0.mk (below_step (by repeat (first | (with_reducible first | exact HB.out | apply below_alloc | apply pw_below_drewN | apply below_drew1) | exact HB.out)) hb); clear HB; have HB := n0_; clear n0_; (try clear hb); (try clear hb2); (try clear hk); (try clear hi)) | ((with_reducible refine gate_callee (f := 53) rfl ?_); refine goesL_ (some 75) rfl rfl Try.func53 (by kernel_rfl) rfl #[.int .i64 x6_2] rfl (by (try simp only [List.map_toArray, List.map_cons, List.map_nil]); first | done | rfl | (simp only [List.length_drop, List.length_take]; rfl)) ?_; (with_reducible refine (turncockref1_ten.calls kj17 x6_2 t298 _ A31.out).mono ?_); rintro e w' ⟨rfl, ⟨nd, rfl⟩⟩; refine ⟨_, rfl, ?_⟩) | ((with_reducible refine gate_callee (f := 74) rfl ?_); refine goesL_ (some 78) rfl rfl Try.func74 (by kernel_rfl) rfl #[.int .i64 (Int.tmod x9_3 t298), .int .i64 x6_2] rfl (by (try simp only [List.map_toArray, List.map_cons, List.map_nil]); first | done | rfl | (simp only [List.length_drop, List.length_take]; rfl)) ?_; (with_reducible refine (turncockref1_filled.calls kj17 (Int.tmod x9_3 t298) x6_2 t299 _ A33.out).mono ?_); rintro e w36 ⟨rfl, hb⟩; refine ⟨_, rfl, ?_⟩; have n0_ := Aside0.mk (below_step (by repeat (first | (with_reducible first | exact HB.out | apply below_alloc | apply pw_below_drewN | apply below_drew1) | exact HB.out)) hb); clear HB; have HB := n0_; clear n0_; (try clear hb); (try clear hb2); (try clear hk); (try clear hi)))
                                              go_ret2
                                              exact ⟨by first | rfl | (simp [errW_none, errW_some] <;> rfl) | (simp [*, errW_none, errW_some] <;> rfl), by repeat (first | (with_reducible first | exact HB.out | apply below_alloc | apply pw_below_drewN | apply below_drew1) | exact HB.out)⟩
                                            · rw [if_neg c34] at H
                                              exact absurd H (by simp)
                                        · rw [if_neg c30] at H
                                          exact absurd H (by simp)
                                      · rw [if_neg c29] at H
                                        have c29b0 : decide (0 < x6_2) = false := decide_eq_false c29
                                        clear c29
                                        simp only [Option.some.injEq, Prod.mk.injEq] at H
                                        obtain ⟨rfl, rfl⟩ := H
                                        go_wp2_with (first | ((with_reducible refine gate_callee (f := 53) rfl ?_); refine goesL_ (some 65) rfl rfl Try.func53 (by kernel_rfl) rfl #[.int .i64 x6_2] rfl (by (try simp only [List.map_toArray, List.map_cons, List.map_nil]); first | done | rfl | (simp only [List.length_drop, List.length_take]; rfl)) ?_; (with_reducible refine (turncockref1_ten.calls kj17 x6_2 t296 _ A25.out).mono ?_); rintro e w' ⟨rfl, ⟨nd, rfl⟩⟩; refine ⟨_, rfl, ?_⟩) | ((with_reducible refine gate_callee (f := 73) rfl ?_); refine goesL_ (some 67) rfl rfl Try.func73 (by kernel_rfl) rfl #[.int .i64 (wrap64 (Int.tdiv x9_3 t296))] rfl (by (try simp only [List.map_toArray, List.map_cons, List.map_nil]); first | done | rfl | (simp only [List.length_drop, List.length_take]; rfl)) ?_; (with_reducible refine (turncockref1_Digits.calls kj17 (wrap64 (Int.tdiv x9_3 t296)) t297 _ A27.out).mono ?_); rintro e w37 ⟨rfl, hb⟩; refine ⟨_, rfl, ?_⟩; have n0_ := Aside0.mk (below_step (by repeat (first | (with_reducible first | exact HB.out | apply below_alloc | apply pw_below_drewN | apply below_drew1) | exact HB.out)) hb); clear HB; have HB := n0_; clear n0_; (try clear hb); (try clear hb2); (try clear hk); (try clear hi)))
                                        go_ret2
                                        exact ⟨by first | rfl | (simp [errW_none, errW_some] <;> rfl) | (simp [*, errW_none, errW_some] <;> rfl), by repeat (first | (with_reducible first | exact HB.out | apply below_alloc | apply pw_below_drewN | apply below_drew1) | exact HB.out)⟩
                                    · rw [if_neg c28] at H
                                      exact absurd H (by simp)
                          · rw [if_neg c17] at H
                            have c17b0 : decide (x9_3 ≤ (wrap64 ((f2i t294) + 1))) = false := decide_eq_false c17
                            clear c17
                            have H' := Aside0.mk H
                            clear H
                            go_wp2
                            go_roundg k3
                            case measure => have := HJ4.out; have := HK2.out; have := HK3.out; omega
                            case rel => exact ⟨(wrap64 (x6_2 + 1)), (by first | rfl | (simp; done) | (simp [*]; done)), H', ⟨by have := HJ4.out; have := HK2.out; have := HK3.out; omega⟩, ⟨by repeat (first | (with_reducible first | exact HB.out | apply below_alloc | apply pw_below_drewN | apply below_drew1) | exact HB.out)⟩⟩
                    · rw [if_neg c16] at H
                      exact absurd H (by simp)
                  · rw [if_neg c14] at H
                    exact absurd H (by simp)
                · rw [if_neg c12] at H
                  have c12b0 : decide (x6_2 ≤ 6) = false := decide_eq_false c12
                  clear c12
                  simp only [Option.some.injEq, Prod.mk.injEq] at H
                  obtain ⟨rfl, rfl⟩ := H
                  go_wp2
                  go_ret2
                  exact ⟨by first | rfl | (simp [errW_none, errW_some] <;> rfl) | (simp [*, errW_none, errW_some] <;> rfl), by repeat (first | (with_reducible first | exact HB.out | apply below_alloc | apply pw_below_drewN | apply below_drew1) | exact HB.out)⟩
end Go.Proofs.Ytipbigdpannlcaa.PTrieFits
