/- A cache: part of the proof. -/
import Derived.Test.YtjgoddieamphpaaOCG
import Derived.Test.YtjgoddieamphpaaDec
namespace Go.Proofs.Ytjgoddieamphpaa.Ca
open Go.RowKit Go.Sort Go.Proofs.YtjgoddieamphpaaW.PrintWords Go.Proofs.YtjgoddieamphpaaW.PrintLast Go.Proofs.YtjgoddieamphpaaW.PrintMore Probe Go.Proofs.Ytjgoddieamphpaa.Obj Go.Proofs.Ytjgoddieamphpaa.PProbeActs
set_option maxRecDepth 100000
set_option linter.unusedVariables false
set_option linter.unusedSimpArgs false
/-! ### digR: function 45 -/
def digR.l0 : Nat → Int → ByteArray → Option (ByteArray)
  | 0, _, _ => none
  | k + 1, x3, x4 => if x3 > 0 then ((some (([(wrap64 (48 + (Int.tmod x3 10))) % 256] : List Int) : List Int)).bind fun y114 => (if (strOfNums y114).size + x4.size ≤ 9223372036854775807 then (digR.l0 k (wrap64 (Int.tdiv x3 10)) ((strOfNums y114) ++ x4)) else (none))) else (some x4)
def digR.f (k : Nat) (a0 : Int) : Option (ByteArray) := (some (hold a0)).bind fun t113 => (if t113 = 0 then (some (⟨#[48]⟩ : ByteArray)) else (digR.l0 k t113 (⟨#[]⟩ : ByteArray)))
theorem digR.mono_l : ∀ k, (∀ y0 y1, LeO (digR.l0 k y0 y1) (digR.l0 (k + 1) y0 y1))
  | 0 => fun _ _ r h => by simp [digR.l0] at h
  | k + 1 => by
    have ih0 := digR.mono_l k
    · intro y0 y1
      unfold digR.l0
      repeat' first
      | (with_reducible exact ih0 _ _)
      | (with_reducible exact LeO.refl _)
      | (with_reducible exact LeO.none _)
      | (with_reducible refine LeO.ite ?_ ?_)
      | (with_reducible refine LeO.bind ?_ (fun _ => ?_))
      | exact ih0 _ _
      | exact LeO.none _
      | refine LeO.ite ?_ ?_
      | refine LeO.bind ?_ (fun _ => ?_)
theorem digR.mono : ∀ a0 k, LeO (digR.f k a0) (digR.f (k + 1) a0) := by
  intro a0 k
  have ih0 := digR.mono_l k
  unfold digR.f
  repeat' first
      | (with_reducible exact ih0 _ _)
      | (with_reducible exact LeO.refl _)
      | (with_reducible exact LeO.none _)
      | (with_reducible refine LeO.ite ?_ ?_)
      | (with_reducible refine LeO.bind ?_ (fun _ => ?_))
      | exact ih0 _ _
      | exact LeO.none _
      | refine LeO.ite ?_ ?_
      | refine LeO.bind ?_ (fun _ => ?_)
set_option maxHeartbeats 8000000 in
set_option maxRecDepth 100000 in
theorem digR.calls (k : Nat) (a0 : Int) (r : ByteArray) (w : World) (h : digR.f k a0 = some r) :
    Calls Try.prog 45 #[.int .i64 a0] w fun e w' => e = .returned (.string r) ∧ Below w.heap.size w w' := by
  have HB := Aside0.mk (Below.refl w.heap.size w)
  have H : ((some (hold a0)).bind fun t113 => (if t113 = 0 then (some (⟨#[48]⟩ : ByteArray)) else (digR.l0 k t113 (⟨#[]⟩ : ByteArray)))) = some r := h
  clear h
  obtain ⟨t113, A20⟩ : ∃ t, t = hold a0 := ⟨_, rfl⟩
  rw [← A20] at H
  replace H : (if t113 = 0 then (some (⟨#[48]⟩ : ByteArray)) else (digR.l0 k t113 (⟨#[]⟩ : ByteArray))) = some r := H
  have A2 : Aside0 (∀ w, Calls Try.prog 78 #[.int .i64 a0] w fun e w' => e = .returned (.int .i64 t113) ∧ Drawn0 w w') := ⟨fun w => by rw [A20]; exact (rhold_any a0 w).mono fun e w' h => ⟨h.1, h.2 ▸ Drawn0.refl _⟩⟩
  clear A20
  by_cases c3 : t113 = 0
  · rw [if_pos c3] at H
    have c3b0 : (t113 == 0) = true := beq_iff_eq.mpr c3
    have c3b1 : (t113 != 0) = false := bne_eq_false_iff_eq.mpr c3
    clear c3
    obtain rfl := Option.some.inj H
    go_enter Try.func45, Try.ntmps45
    go_wp2_with (first | ((with_reducible refine gate_callee (f := 78) rfl ?_); refine goesL_ (some 6) rfl rfl Try.func78 (by kernel_rfl) rfl #[.int .i64 a0] rfl (by (try simp only [List.map_toArray, List.map_cons, List.map_nil]); first | done | rfl | (simp only [List.length_drop, List.length_take]; rfl)) ?_; (with_reducible refine (A2.out _).mono ?_); rintro e w' ⟨rfl, ⟨nd, rfl⟩⟩; refine ⟨_, rfl, ?_⟩))
    go_ret
    exact ⟨by first | rfl | (simp [] <;> rfl) | (simp [*] <;> rfl), by repeat (first | (with_reducible first | exact HB.out | apply below_alloc | apply pw_below_drewN | apply below_drew1) | exact HB.out)⟩
  · rw [if_neg c3] at H
    have c3b0 : (t113 == 0) = false := beq_eq_false_iff_ne.mpr c3
    have c3b1 : (t113 != 0) = true := bne_iff_ne.mpr c3
    have H' := Aside0.mk H
    clear H
    go_enter Try.func45, Try.ntmps45
    go_wp2_with (first | ((with_reducible refine gate_callee (f := 78) rfl ?_); refine goesL_ (some 6) rfl rfl Try.func78 (by kernel_rfl) rfl #[.int .i64 a0] rfl (by (try simp only [List.map_toArray, List.map_cons, List.map_nil]); first | done | rfl | (simp only [List.length_drop, List.length_take]; rfl)) ?_; (with_reducible refine (A2.out _).mono ?_); rintro e w' ⟨rfl, ⟨nd, rfl⟩⟩; refine ⟨_, rfl, ?_⟩))
    go_loopg [3, 4] k (fun kq v3 v4 w' => ∃ (x3_1 : Int) (x4_1 : ByteArray), v3 = .int .i64 x3_1 ∧ v4 = .string x4_1 ∧ Aside0 (digR.l0 kq x3_1 x4_1 = some r) ∧ Aside0 (kq ≤ k) ∧ Aside0 (Below w.heap.size w w'))
    case atStart => exact ⟨(t113), ((⟨#[]⟩ : ByteArray)), (by first | rfl | (simp; done) | (simp [*]; done)), (by first | rfl | (simp; done) | (simp [*]; done)), H', ⟨Nat.le_refl _⟩, ⟨by repeat (first | (with_reducible first | exact HB.out | apply below_alloc | apply pw_below_drewN | apply below_drew1) | exact HB.out)⟩⟩
    case round =>
      clear H'
      try clear p2
      try clear c3
      try clear c3b0
      try clear c3b1
      obtain ⟨x3_1, x4_1, rfl, rfl, HA, HK1, HB⟩ := hrel
      cases gk with
      | zero => exact absurd HA.out (by simp [digR.l0])
      | succ k1 =>
        have H := HA.out
        clear HA
        simp only [digR.l0] at H
        by_cases c4 : x3_1 > 0
        · rw [if_pos c4] at H
          have c4b0 : decide (0 < x3_1) = true := decide_eq_true c4
          clear c4
          obtain ⟨y114, hy114⟩ : ∃ y_ : List Int, y_ = (([(wrap64 (48 + (Int.tmod x3_1 10))) % 256] : List Int)) := ⟨_, rfl⟩
          replace H : (if (strOfNums y114).size + x4_1.size ≤ 9223372036854775807 then (digR.l0 k1 (wrap64 (Int.tdiv x3_1 10)) ((strOfNums y114) ++ x4_1)) else (none)) = some r := by first | (rw [hy114]; with_reducible exact H) | (have H2_ := (Option.bind_some _ _).symm.trans H; rw [hy114]; with_reducible exact H2_) | (have H2_ := (Option.bind_some _ _).symm.trans H; with_reducible exact H2_) | with_reducible exact H | (rw [hy114]; exact H) | exact H
          have Ny114 := Aside0.mk hy114
          clear hy114
          by_cases c5 : (strOfNums y114).size + x4_1.size ≤ 9223372036854775807
          · rw [if_pos c5] at H
            have c5b0 := eq_true c5
            have c5b1 : decide ((strOfNums y114).size + x4_1.size ≤ 9223372036854775807) = true := decide_eq_true c5
            try have c5b2 : (9223372036854775807 < (strOfNums y114).size + x4_1.size) = False := eq_false (Nat.not_lt.2 c5)
            have H' := Aside0.mk H
            clear H
            go_wp2_with (first | ((with_reducible refine gate_dst (N := 15) rfl ?_); refine Kd.R_lit (Kd.int .u8) _ 5 ?hg (N := 15) ?hd (xs := ([(wrap64 (48 + (Int.tmod x3_1 10))) % 256] : List Int)) (inner := [.int .u8 ((wrap64 (48 + (Int.tmod x3_1 10))) % 256)]) (ok := fun _ => True) (okp := fun _ => True) ?hr ?hp (fun _ hk => hk) trivial (Below.refl _ _) (Nat.le_refl _) (by simp) ?_; (case hd => rfl); (case hg => rfl); (case hr => first | (go_simp; done) | (go_simp; rfl)); (case hp => exact (Reps.one (show Kd.M (Kd.int .u8) _ _ _ ((wrap64 (48 + (Int.tmod x3_1 10))) % 256) [.int .u8 ((wrap64 (48 + (Int.tmod x3_1 10))) % 256)] from rfl) (Reps.none _ _))); intro v115 w6 ho7 hb hg_ hnew_; clear hg_ hnew_; (first | rw [← Ny114.out] at ho7 | (simp only [Int.reduceToNat] at ho7; rw [← Ny114.out] at ho7)); have n0_ := Aside0.mk (Kd.R_lower ho7 (below_size (by repeat (first | (with_reducible first | exact HB.out | apply below_alloc | apply pw_below_drewN | apply below_drew1) | exact HB.out)))); have n1_ := Aside0.mk (below_step (by repeat (first | (with_reducible first | exact HB.out | apply below_alloc | apply pw_below_drewN | apply below_drew1) | exact HB.out)) hb); clear HB; have HO116 := n0_; have HB := n1_; clear n0_ n1_; clear hb ho7; have hcv8 := own_string (P := Try.prog) Try.underlying122 Try.underlying5 Try.underlying9 (Kd.own_of_R HO116.out)))
            go_roundg k1
            case measure => have := HK1.out; omega
            case rel => exact ⟨(wrap64 (Int.tdiv x3_1 10)), ((strOfNums y114) ++ x4_1), (by first | rfl | (simp; done) | (simp [*]; done)), (by first | rfl | (simp; done) | (simp [*]; done)), H', ⟨by have := HK1.out; omega⟩, ⟨by repeat (first | (with_reducible first | exact HB.out | apply below_alloc | apply pw_below_drewN | apply below_drew1) | exact HB.out)⟩⟩
          · rw [if_neg c5] at H
            exact absurd H (by simp)
        · rw [if_neg c4] at H
          have c4b0 : decide (0 < x3_1) = false := decide_eq_false c4
          clear c4
          obtain rfl := Option.some.inj H
          go_wp2
          go_ret
          exact ⟨by first | rfl | (simp [] <;> rfl) | (simp [*] <;> rfl), by repeat (first | (with_reducible first | exact HB.out | apply below_alloc | apply pw_below_drewN | apply below_drew1) | exact HB.out)⟩

def toB (z : Int) : UInt8 := UInt8.ofNat z.toNat
theorem toB_nat (n : Nat) : toB (n : Int) = UInt8.ofNat n := by unfold toB; rw [Int.toNat_natCast]
theorem digit_term (n : Nat) : (wrap64 (48 + Int.tmod (n : Int) 10)) % 256 = ((48 + n % 10 : Nat) : Int) := by
  rw [Int.tmod_eq_emod_of_nonneg (by omega)]
  unfold wrap64
  omega
theorem quo_term (n : Nat) (h : n ≤ 4611686018427387904) : wrap64 (Int.tdiv (n : Int) 10) = ((n / 10 : Nat) : Int) := by
  rw [Int.tdiv_eq_ediv_of_nonneg (by omega)]
  unfold wrap64
  omega
theorem rdig_l0 (d : Nat) : ∀ (k n : Nat) (acc : List UInt8), n ≤ 4611686018427387904 → n < 10 ^ d → d < k → acc.length + d ≤ 1000 →
    digR.l0 k (n : Int) ⟨acc.toArray⟩ = some ⟨(Dec.pre n ++ acc).toArray⟩ := by
  induction d with
  | zero =>
    intro k n acc hm hn hk ha
    obtain ⟨k, rfl⟩ : ∃ m, k = m + 1 := ⟨k - 1, by omega⟩
    obtain rfl : n = 0 := by omega
    simp only [digR.l0]
    rw [if_neg (by omega)]; rfl
  | succ d ih =>
    intro k n acc hm hn hk ha
    obtain ⟨k, rfl⟩ : ∃ m, k = m + 1 := ⟨k - 1, by omega⟩
    by_cases h : n = 0
    · subst h
      simp only [digR.l0]
      rw [if_neg (by omega)]; rfl
    · simp only [digR.l0]
      rw [if_pos (by omega), digit_term, quo_term n hm]
      simp only [Option.bind_some]
      have e : strOfNums [((48 + n % 10 : Nat) : Int)] ++ (⟨acc.toArray⟩ : ByteArray) = ⟨(UInt8.ofNat (48 + n % 10) :: acc).toArray⟩ := by
        have e1 : strOfNums [((48 + n % 10 : Nat) : Int)] = ⟨[UInt8.ofNat (48 + n % 10)].toArray⟩ := by
          show (⟨[toB ((48 + n % 10 : Nat) : Int)].toArray⟩ : ByteArray) = _
          rw [toB_nat]
        rw [e1]
        generalize UInt8.ofNat (48 + n % 10) = c
        apply ByteArray.ext
        simp [ByteArray.data_append]
      have hs1 : (strOfNums [((48 + n % 10 : Nat) : Int)]).size = 1 := rfl
      have hs2 : (⟨acc.toArray⟩ : ByteArray).size = acc.length := by show acc.toArray.size = _; simp
      rw [if_pos (by rw [hs1, hs2]; omega), e, ih k (n / 10) _ (by omega) (by rw [Nat.pow_succ] at hn; omega) (by omega) (by simp; omega), Dec.pre_step n h, List.append_assoc]
      rfl
theorem rdigits_f (a : Int) (k : Nat) (hk : 20 < k) : digR.f k a = some ⟨(Dec.dec (hold a).toNat).toArray⟩ := by
  have ha := hold_rng a
  unfold digR.f
  simp only [Option.bind_some]
  obtain ⟨n, hn⟩ : ∃ n : Nat, hold a = n := ⟨(hold a).toNat, by omega⟩
  rw [hn] at ha ⊢
  rw [Int.toNat_natCast]
  by_cases h : n = 0
  · subst h; rw [if_pos (show ((0 : Nat) : Int) = 0 from rfl), Dec.dec_small 0 (by omega)]; rfl
  · rw [if_neg (by omega)]
    have := rdig_l0 19 k n [] (by omega) (by omega) (by omega) (by simp)
    rw [this, List.append_nil]
    unfold Dec.pre; rw [if_neg h]

def kj (j : Nat) : ByteArray := (⟨#[107]⟩ : ByteArray) ++ ⟨(Dec.dec j).toArray⟩
def dg (j : Nat) : ByteArray := ⟨(Dec.dec j).toArray⟩
theorem dg_size (j : Nat) (h : j ≤ 1000) : (dg j).size ≤ 4 := by
  have := Dec.dec_len 3 j (by omega)
  show (Dec.dec j).toArray.size ≤ 4
  simpa using this
theorem kj_size (j : Nat) (h : j ≤ 1000) : (kj j).size ≤ 1000 := by
  have := dg_size j h
  unfold kj
  rw [ByteArray.size_append]
  show 1 + (dg j).size ≤ 1000
  omega
theorem kj_inj {i j : Nat} (h : kj i = kj j) : i = j := by
  unfold kj at h
  have h2 := congrArg (fun b : ByteArray => b.data.toList) h
  simp only [ByteArray.data_append, Array.toList_append] at h2
  exact Dec.dec_inj (List.append_cancel_left h2)
theorem dig_any (j : Nat) (h : j ≤ 1000) (w : World) : Calls Try.prog 45 #[.int .i64 (j : Int)] w fun e w' => e = .returned (.string (dg j)) ∧ Frm (fun _ => False) w w' := by
  refine (digR.calls 21 (j : Int) (dg j) w ?_).mono fun e w' h => ⟨h.1, Frm.of_below h.2⟩
  rw [rdigits_f _ _ (by omega), show hold (j : Int) = (j : Int) by unfold hold; omega, Int.toNat_natCast]
  rfl
end Go.Proofs.Ytjgoddieamphpaa.Ca
