/- HeadLeast: the headers tell of that limited status which has the least left, of several the first; those that are not limited change nothing; for every list, no condition. -/
import Derived.Test.YtoopmkinpandfaaPHeadLeastx5
import Derived.Test.YtoopmkinpandfaaFth
import Derived.Test.YtoopmkinpandfaaDec
set_option linter.unusedSimpArgs false
set_option linter.unusedVariables false
namespace Go.Proofs.Ytoopmkinpandfaa.Pure
open Go.Proofs.Ytoopmkinpandfaa.PHeadOf Go.RowKit Go.Proofs.Ytoopmkinpandfaa.PHeadLeast Go.Proofs.YtoopmkinpandfaaW.PrintWords Go.Proofs.YtoopmkinpandfaaW.PrintLast Go.Proofs.YtoopmkinpandfaaW.PrintMore
open Go.Proofs.Ytoopmkinpandfaa

open Flt
theorem isnan_f (x : Nat) : math_IsNaN.f x = some (fnan x) := by unfold math_IsNaN.f; rw [fne_self]
theorem signbit_f (x : Nat) (h : x < 18446744073709551616) : math_Signbit.f x = some (sg x) := by unfold math_Signbit.f; rw [fsign_sg x h]
theorem bits_of {b : Int} (h : (Lit.int .u64 b).wf = true) : b.toNat < 18446744073709551616 := by
  have h2 : IntKind.min .u64 ≤ b ∧ b ≤ IntKind.max .u64 := by simpa [Lit.wf] using h
  have e1 : IntKind.min .u64 = 0 := by decide
  have e2 : IntKind.max .u64 = 18446744073709551615 := by decide
  omega
theorem int_of {b : Int} (h : (Lit.int .i64 b).wf = true) : -9223372036854775808 ≤ b ∧ b ≤ 9223372036854775807 := by
  have h2 : IntKind.min .i64 ≤ b ∧ b ≤ IntKind.max .i64 := by simpa [Lit.wf] using h
  have e1 : IntKind.min .i64 = -9223372036854775808 := by decide
  have e2 : IntKind.max .i64 = 9223372036854775807 := by decide
  omega
theorem key_zero : key 0 = 0 := by decide
theorem key_one : key 4607182418800017408 = 4607182418800017408 := by decide
theorem nn {x : Nat} (h : fnan x = false) : rung x ≤ top := not_nan x h
theorem yn {x : Nat} (h : fnan x = true) : top < rung x := (fnan_iff x).1 h
def hold (a : Int) : Int := if a < 0 then 0 else if a > 4611686018427387904 then 4611686018427387904 else a
theorem hold_rng (a : Int) : 0 ≤ hold a ∧ hold a ≤ 4611686018427387904 := by
  unfold hold
  repeat' split
  all_goals omega
theorem hold_in (a : Int) (h0 : 0 ≤ a) (h1 : a ≤ 4611686018427387904) : hold a = a := by
  unfold hold
  rw [if_neg (by omega), if_neg (by omega)]
theorem numhold_f (a : Int) : num_Hold.f a = some (hold a) := by
  unfold num_Hold.f hold mx mn
  congr 1
  repeat' split
  all_goals omega
def toB (z : Int) : UInt8 := UInt8.ofNat z.toNat
theorem toB_nat (n : Nat) : toB (n : Int) = UInt8.ofNat n := by unfold toB; rw [Int.toNat_natCast]
theorem digit_term (n : Nat) : (wrap64 (48 + Int.tmod (n : Int) 10)) % 256 = ((48 + n % 10 : Nat) : Int) := by
  rw [Int.tmod_eq_emod_of_nonneg (by omega)]
  unfold wrap64
  omega
theorem quo_term (n : Nat) (h : n ≤ 4611686018427387904) : wrap64 (Int.tdiv (n : Int) 10) = ((n / 10 : Nat) : Int) := by
  rw [Int.tdiv_eq_ediv_of_nonneg (by omega)]
  unfold wrap64
  omega
theorem dig_l0 (d : Nat) : ∀ (k n : Nat) (acc : List Int), n ≤ 4611686018427387904 → n < 10 ^ d → d < k → acc.length + d ≤ 1000 →
    num_Digits.l0 k (n : Int) acc = some ⟨(Dec.pre n ++ acc.map toB).toArray⟩ := by
  induction d with
  | zero =>
    intro k n acc hm hn hk ha
    obtain ⟨k, rfl⟩ : ∃ m, k = m + 1 := ⟨k - 1, by omega⟩
    obtain rfl : n = 0 := by omega
    simp only [num_Digits.l0]
    rw [if_neg (by omega)]; rfl
  | succ d ih =>
    intro k n acc hm hn hk ha
    obtain ⟨k, rfl⟩ : ∃ m, k = m + 1 := ⟨k - 1, by omega⟩
    by_cases h : n = 0
    · subst h
      simp only [num_Digits.l0]
      rw [if_neg (by omega)]; rfl
    · simp only [num_Digits.l0]
      rw [if_pos (by omega), digit_term, quo_term n hm]
      simp only [Option.bind_some]
      rw [if_pos (by simp; omega), ih k (n / 10) _ (by omega) (by rw [Nat.pow_succ] at hn; omega) (by omega) (by simp; omega), Dec.pre_step n h]
      simp only [List.map_append, List.map_cons, List.map_nil, toB_nat, List.append_assoc]
theorem digits_f (a : Int) (k : Nat) (hk : 20 < k) : num_Digits.f k a = some ⟨(Dec.dec (hold a).toNat).toArray⟩ := by
  have ha := hold_rng a
  unfold num_Digits.f
  rw [numhold_f]
  simp only [Option.bind_some]
  obtain ⟨n, hn⟩ : ∃ n : Nat, hold a = n := ⟨(hold a).toNat, by omega⟩
  rw [hn] at ha ⊢
  rw [digit_term, quo_term n (by omega), dig_l0 19 k (n / 10) _ (by omega) (by omega) (by omega) (by simp)]
  rw [Int.toNat_natCast, Dec.dec_pre n]
  simp only [List.map_cons, List.map_nil, toB_nat]
theorem rhold_f (a : Int) : turncockref1_Hold.f a = some (hold a) := by
  unfold turncockref1_Hold.f hold
  repeat' split
  all_goals rfl
theorem rdig_l0 (d : Nat) : ∀ (k n : Nat) (acc : List UInt8), n ≤ 4611686018427387904 → n < 10 ^ d → d < k → acc.length + d ≤ 1000 →
    turncockref1_Digits.l0 k (n : Int) ⟨acc.toArray⟩ = some ⟨(Dec.pre n ++ acc).toArray⟩ := by
  induction d with
  | zero =>
    intro k n acc hm hn hk ha
    obtain ⟨k, rfl⟩ : ∃ m, k = m + 1 := ⟨k - 1, by omega⟩
    obtain rfl : n = 0 := by omega
    simp only [turncockref1_Digits.l0]
    rw [if_neg (by omega)]; rfl
  | succ d ih =>
    intro k n acc hm hn hk ha
    obtain ⟨k, rfl⟩ : ∃ m, k = m + 1 := ⟨k - 1, by omega⟩
    by_cases h : n = 0
    · subst h
      simp only [turncockref1_Digits.l0]
      rw [if_neg (by omega)]; rfl
    · simp only [turncockref1_Digits.l0]
      rw [if_pos (by omega), digit_term, quo_term n hm]
      simp only [Option.bind_some]
      have e : strOfNums [((48 + n % 10 : Nat) : Int)] ++ (⟨acc.toArray⟩ : ByteArray) = ⟨(UInt8.ofNat (48 + n % 10) :: acc).toArray⟩ := by
        have e1 : strOfNums [((48 + n % 10 : Nat) : Int)] = ⟨[UInt8.ofNat (48 + n % 10)].toArray⟩ := by
          show (⟨[toB ((48 + n % 10 : Nat) : Int)].toArray⟩ : ByteArray) = _
          rw [toB_nat]
        rw [e1]
        generalize UInt8.ofNat (48 + n % 10) = c
        apply ByteArray.ext
        simp [ByteArray.data_append]
      have hs1 : (strOfNums [((48 + n % 10 : Nat) : Int)]).size = 1 := rfl
      have hs2 : (⟨acc.toArray⟩ : ByteArray).size = acc.length := by show acc.toArray.size = _; simp
      rw [if_pos (by rw [hs1, hs2]; omega), e, ih k (n / 10) _ (by omega) (by rw [Nat.pow_succ] at hn; omega) (by omega) (by simp; omega), Dec.pre_step n h, List.append_assoc]
      rfl
theorem rdigits_f (a : Int) (k : Nat) (hk : 20 < k) : turncockref1_Digits.f k a = some ⟨(Dec.dec (hold a).toNat).toArray⟩ := by
  have ha := hold_rng a
  unfold turncockref1_Digits.f
  rw [rhold_f]
  simp only [Option.bind_some]
  obtain ⟨n, hn⟩ : ∃ n : Nat, hold a = n := ⟨(hold a).toNat, by omega⟩
  rw [hn] at ha ⊢
  rw [Int.toNat_natCast]
  by_cases h : n = 0
  · subst h; rw [if_pos (show ((0 : Nat) : Int) = 0 from rfl), Dec.dec_small 0 (by omega)]; rfl
  · rw [if_neg (by omega)]
    have := rdig_l0 19 k n [] (by omega) (by omega) (by omega) (by simp)
    rw [this, List.append_nil]
    unfold Dec.pre; rw [if_neg h]
def fillL (n d : Nat) : List UInt8 := List.replicate (d - (Dec.dec n).length) 48 ++ Dec.dec n
theorem bsize (l : List UInt8) : (⟨l.toArray⟩ : ByteArray).size = l.length := by show l.toArray.size = _; simp
theorem bapp (a b : List UInt8) : (⟨a.toArray⟩ : ByteArray) ++ ⟨b.toArray⟩ = ⟨(a ++ b).toArray⟩ := by apply ByteArray.ext; simp [ByteArray.data_append]
theorem repeat0 (c : Nat) : Lib.repeatL [48] c = List.replicate c 48 := by
  induction c with
  | zero => rfl
  | succ c ih => show [48] ++ Lib.repeatL [48] c = _; rw [ih]; rfl
theorem fill_f (n d : Nat) (hn : n ≤ 4611686018427387904) (hd : d ≤ 1000) (k : Nat) (hk : 20 < k) : ratio_fill.f k (n : Int) (d : Int) = some ⟨(fillL n d).toArray⟩ := by
  unfold ratio_fill.f
  rw [digits_f _ _ hk, hold_in _ (by omega) (by omega), Int.toNat_natCast]
  simp only [Option.bind_some]
  have hl := Dec.dec_len 18 n (by omega)
  have hb := bsize (Dec.dec n)
  have e : mx (wrap64 ((d : Int) - ((⟨(Dec.dec n).toArray⟩ : ByteArray).size : Int))) 0 = ((d - (Dec.dec n).length : Nat) : Int) := by
    rw [hb]
    unfold mx wrap64
    omega
  rw [e]
  have h1 : ((⟨#[48]⟩ : ByteArray)).size = 1 := rfl
  have h3 : strings_Repeat.f (⟨#[48]⟩ : ByteArray) ((d - (Dec.dec n).length : Nat) : Int) = some ⟨(List.replicate (d - (Dec.dec n).length) (48 : UInt8)).toArray⟩ := by
    unfold strings_Repeat.f
    rw [if_pos ⟨by omega, by omega, by rw [h1, Int.toNat_natCast]; omega⟩, Int.toNat_natCast]
    show some (⟨(Lib.repeatL [48] _).toArray⟩ : ByteArray) = _
    rw [repeat0]
  rw [h3]
  simp only [Option.bind_some]
  rw [bsize, hb, if_pos (by rw [List.length_replicate]; omega), bapp]
  rfl
theorem fillL_len (n d : Nat) : (fillL n d).length = if (Dec.dec n).length < d then d else (Dec.dec n).length := by
  unfold fillL
  rw [List.length_append, List.length_replicate]
  split <;> omega
theorem filled_l (d : Nat) (l : List UInt8) : ∀ (j k : Nat), d - l.length = j → l.length + j ≤ 2000 → j < k → turncockref1_filled.l0 k (d : Int) ⟨l.toArray⟩ = some ⟨(List.replicate j 48 ++ l).toArray⟩ := by
  intro j
  induction j generalizing l with
  | zero =>
    intro k hj hl hk
    obtain ⟨k, rfl⟩ : ∃ m, k = m + 1 := ⟨k - 1, by omega⟩
    simp only [turncockref1_filled.l0]
    rw [bsize, if_neg (by omega)]
    rfl
  | succ j ih =>
    intro k hj hl hk
    obtain ⟨k, rfl⟩ : ∃ m, k = m + 1 := ⟨k - 1, by omega⟩
    simp only [turncockref1_filled.l0]
    rw [bsize, if_pos (by omega), if_pos (by omega)]
    rw [show (⟨#[48]⟩ : ByteArray) = ⟨[(48 : UInt8)].toArray⟩ from rfl, bapp]
    have := ih ([(48 : UInt8)] ++ l) k (by simp; omega) (by simp; omega) (by omega)
    rw [this]
    congr 3
    rw [List.replicate_succ', List.append_assoc]
theorem filled_f (n d : Nat) (hn : n ≤ 4611686018427387904) (hd : d ≤ 1000) (k : Nat) (hk : 20 + d < k) : turncockref1_filled.f k (n : Int) (d : Int) = some ⟨(fillL n d).toArray⟩ := by
  unfold turncockref1_filled.f
  rw [rdigits_f _ _ (by omega), hold_in _ (by omega) (by omega), Int.toNat_natCast]
  simp only [Option.bind_some]
  have hl := Dec.dec_len 18 n (by omega)
  exact filled_l d (Dec.dec n) _ k rfl (by omega) (by omega)
/-! Quotients by powers of ten, their bounds. -/
theorem quo_nat (n d : Nat) (hn : n ≤ 9007199254740992) (hd : d ≤ 9007199254740992) (h0 : 0 < d) : ∃ N D R : Nat, 0 < D ∧ fquoOk (fofi (n : Int)) (fofi (d : Int)) = true ∧ fquo (fofi (n : Int)) (fofi (d : Int)) = R ∧ R < top ∧ Rnd N D R ∧ (n = 0 → N = 0) ∧
    18014398509481984 * (N * d) ≤ 18014398509481985 * (D * (n * U)) ∧ 18014398509481983 * (D * (n * U)) ≤ 18014398509481984 * (N * d) := by
  have ht := top_lt
  have hU := U_pos
  obtain ⟨a1, a2⟩ := fofi_exact n hn
  obtain ⟨b1, b2⟩ := fofi_exact d hd
  have ra := rung_of (fofi (n : Int)) (by omega)
  have rb := rung_of (fofi (d : Int)) (by omega)
  have sa := sg_of (fofi (n : Int)) (by omega)
  have sb := sg_of (fofi (d : Int)) (by omega)
  obtain ⟨N, D, R, hD, hdiv, hR, hz, hu, hl⟩ := quo_some (fofi (n : Int)) (fofi (d : Int)) (by omega) (by omega) (by
    rw [rb]; intro h
    rw [h, mv_zero] at b2
    have := Nat.mul_pos h0 hU
    omega)
  rw [sa, sb] at hdiv
  rw [ra, rb, a2, b2] at hu hl
  rw [ra] at hz
  have e1 : 18014398509481984 * (N * (d * U)) = 18014398509481984 * (N * d) * U := by generalize U = u; simp only [Nat.mul_assoc]
  have e2 : 18014398509481985 * (D * (n * U * U)) = 18014398509481985 * (D * (n * U)) * U := by generalize U = u; simp only [Nat.mul_assoc]
  have e3 : 18014398509481984 * (N * (d * U)) = 18014398509481984 * (N * d) * U := e1
  have e4 : 18014398509481983 * (D * (n * U * U)) = 18014398509481983 * (D * (n * U)) * U := by generalize U = u; simp only [Nat.mul_assoc]
  rw [e1, e2] at hu
  rw [e4, e3] at hl
  have hu2 := Nat.le_of_mul_le_mul_right hu hU
  have hl2 := Nat.le_of_mul_le_mul_right hl hU
  have hRt : R < top := by
    obtain ⟨E, q1, q2⟩ := big64
    have hm := hR.mono hD (by omega) (Rnd.exact (E + 4503599627370496) 1 (by omega)) (by
      rw [q1, Nat.mul_one, Nat.mul_one]
      have h1 : N ≤ N * d := Nat.le_mul_of_pos_right _ h0
      have h2 : n * U ≤ 9007199254740992 * U := Nat.mul_le_mul_right _ hn
      have h3 : D * (n * U) ≤ D * (9007199254740992 * U) := Nat.mul_le_mul_left _ h2
      have h4 : D * (9007199254740992 * U) = 9007199254740992 * (D * U) := Nat.mul_left_comm _ _ _
      have h5 : 18446744073709551616 * U * D = 18446744073709551616 * (D * U) := by rw [Nat.mul_assoc, Nat.mul_comm U D]
      rw [h5]
      rw [h4] at h3
      generalize D * U = z at *
      generalize N * d = y at *
      generalize D * (n * U) = x at *
      omega)
    have ht2 : top = 9218868437227405312 := rfl
    omega
  have hq : FloatKind.f64.format.div (fofi (n : Int)) (fofi (d : Int)) = some (min R top) := hdiv
  refine ⟨N, D, R, hD, by unfold fquoOk; rw [hq]; rfl, ?_, hRt, hR, ?_, hu2, hl2⟩
  · unfold fquo
    rw [hq]
    show min R top = R
    omega
  · intro h
    refine hz ?_
    have a3 : mv (fofi (n : Int)) = mv 0 := by rw [a2, h, Nat.zero_mul, mv_zero]
    exact mv_inj a3
def quoV (n j : Nat) : Nat := fquo (fofi (n : Int)) (fofi ((10 ^ j : Nat) : Int))
theorem pow_le6 (j : Nat) (hj : j ≤ 6) : 10 ^ j ≤ 1000000 := by
  have : 10 ^ j ≤ 10 ^ 6 := Nat.pow_le_pow_right (by omega) hj
  have e : (10 : Nat) ^ 6 = 1000000 := by decide
  omega
theorem quoV_ok (n j : Nat) (hn : n ≤ 9007199254740992) (hj : j ≤ 6) : fquoOk (fofi (n : Int)) (fofi ((10 ^ j : Nat) : Int)) = true ∧ quoV n j < top := by
  have := pow_le6 j hj
  obtain ⟨N, D, R, _, h1, h2, h3, _⟩ := quo_nat n (10 ^ j) hn (by omega) (Nat.pow_pos (by omega))
  exact ⟨h1, by unfold quoV; rw [h2]; exact h3⟩
def signL (x : Nat) : List UInt8 := if sg x then [45] else []
/-- whole and thousandths of a float below 2^53, by its rung -/
def wholeN (g : Nat) : Nat := mv g / U
def partN (g : Nat) : Nat := (f2i (fmul (fsub g (fofi (wholeN g : Int))) 4652007308841189376)).toNat
def textL (x : Nat) : List UInt8 :=
  if fnan x then [110, 97, 110] else
  if rung x = top then signL x ++ [105, 110, 102] else
  if 4845873199050653696 ≤ rung x then signL x ++ [98, 105, 103] else
  signL x ++ Dec.dec (wholeN (rung x)) ++ [46] ++ fillL (min (partN (rung x)) 999) 3
theorem mv_big : mv 4845873199050653696 = 9007199254740992 * U := by
  obtain ⟨E, hE⟩ : ∃ E, E = K74 + 1 := ⟨_, rfl⟩
  have hE2 : E = 1075 := by rw [hE]; rfl
  have h := mv_scale E 4503599627370496 (.inr ⟨by omega, by omega⟩)
  have e : E * 4503599627370496 + 4503599627370496 = 4845873199050653696 := by rw [hE2]
  have h2 : 2 ^ E = 2 ^ K74 * 2 := by rw [hE, Nat.pow_succ]
  rw [e, h2] at h
  rw [h]
  unfold U
  generalize 2 ^ K74 = z
  omega
theorem bits1000 : fofi ((1000 : Nat) : Int) = 4652007308841189376 := by decide +kernel
/-- what the text of a float below 2^53 is put together from -/
theorem text_mid (g : Nat) (hg : g < 4845873199050653696) : f2iOk g = true ∧ f2i g = (wholeN g : Int) ∧ wholeN g < 9007199254740992 ∧ fsubOk g (fofi (wholeN g : Int)) = true ∧
    fmulOk (fsub g (fofi (wholeN g : Int))) 4652007308841189376 = true ∧ f2iOk (fmul (fsub g (fofi (wholeN g : Int))) 4652007308841189376) = true ∧ f2i (fmul (fsub g (fofi (wholeN g : Int))) 4652007308841189376) = (partN g : Int) ∧ partN g ≤ 1000 ∧
    ffloorOk g = true ∧ ffloor g = fofi (wholeN g : Int) ∧ f2iOk (fofi (wholeN g : Int)) = true ∧ f2i (fofi (wholeN g : Int)) = (wholeN g : Int) ∧
    ffloorOk (fmul (fsub g (fofi (wholeN g : Int))) 4652007308841189376) = true ∧ f2iOk (ffloor (fmul (fsub g (fofi (wholeN g : Int))) 4652007308841189376)) = true ∧ f2i (ffloor (fmul (fsub g (fofi (wholeN g : Int))) 4652007308841189376)) = (partN g : Int) := by
  have ht : top = 9218868437227405312 := rfl
  have hU := U_pos
  have hW : wholeN g < 9007199254740992 := by
    unfold wholeN
    have h1 : mv g < 9007199254740992 * U := by rw [← mv_big]; exact mv_lt hg
    exact (Nat.div_lt_iff_lt_mul hU).2 h1
  have h2 := f2i_pos g (by omega) (by unfold wholeN at hW; generalize mv g / U = z at *; omega)
  have h3 := floor_pos g (by omega)
  obtain ⟨h4, h5⟩ := fofi_exact (wholeN g) (by omega)
  have hle : mv (fofi (wholeN g : Int)) ≤ mv g := by rw [h5]; exact Nat.div_mul_le_self _ _
  obtain ⟨h6, R1, h7, h8⟩ := fsub_pos g (fofi (wholeN g : Int)) (by omega) h4 hle
  have hlt : mv g - mv (fofi (wholeN g : Int)) ≤ U := by
    rw [h5]
    unfold wholeN
    have := Nat.div_add_mod (mv g) U
    have hm := Nat.mod_lt (mv g) hU
    rw [Nat.mul_comm] at this
    omega
  have hR1 : R1 ≤ 4607182418800017408 := h8.mono (d' := 1) (by omega) (by omega) (Rnd.exact 4607182418800017408 1 (by omega)) (by
    rw [mv_one]
    generalize mv g - mv (fofi (wholeN g : Int)) = z at *
    generalize U = u at *
    omega)
  have e1 : fsub g (fofi (wholeN g : Int)) = R1 := by rw [h7]; omega
  obtain ⟨q1, q2⟩ := fofi_exact 1000 (by omega)
  rw [bits1000] at q1 q2
  obtain ⟨h9, R2, h10, h11⟩ := fmul_pos R1 4652007308841189376 (by omega) q1
  have hR2 : R2 ≤ 4652007308841189376 := h11.mono (d' := 1) hU (by omega) (Rnd.exact 4652007308841189376 1 (by omega)) (by
    have a1 : mv R1 ≤ U := by rw [← mv_one]; exact mv_le hR1
    have a2 : mv R1 * mv 4652007308841189376 ≤ U * mv 4652007308841189376 := Nat.mul_le_mul_right _ a1
    generalize mv 4652007308841189376 = v at *
    rw [Nat.mul_one, Nat.mul_one, Nat.mul_comm v U]
    exact a2)
  have e2 : fmul R1 4652007308841189376 = R2 := by rw [h10]; omega
  have hP : mv R2 / U ≤ 1000 := by
    have := mv_le hR2
    rw [q2] at this
    exact (Nat.div_le_iff_le_mul_add_pred hU).2 (by rw [Nat.mul_comm U 1000]; omega)
  have h12 := f2i_pos R2 (by omega) (by generalize mv R2 / U = z at *; omega)
  have h13 := floor_pos R2 (by omega)
  have h14 := f2i_floor R2 (by omega) (by generalize mv R2 / U = z at *; omega)
  have h15 := f2i_pos (fofi (wholeN g : Int)) h4 (by rw [h5, Nat.mul_div_cancel _ hU]; omega)
  rw [h5, Nat.mul_div_cancel _ hU] at h15
  have eP : partN g = mv R2 / U := by unfold partN; rw [e1, e2, h12.2, Int.toNat_natCast]
  rw [e1, e2, eP]
  refine ⟨h2.1, h2.2, hW, h6, h9, h12.1, h12.2, hP, h3.1, h3.2, h15.1, h15.2, h13.1, h14.1, ?_⟩
  rw [h14.2, h12.2]
theorem abs_f (x : Nat) (h : x < 18446744073709551616) : math_Abs.f x = some (rung x) := by unfold math_Abs.f; rw [fabs_rung x h]
theorem pos_ge (x y : Nat) (hx : x ≤ top) (hy : y ≤ top) : fge x y = decide (y ≤ x) := by
  have ht := top_lt
  have rx : rung x = x := rung_of x (by omega)
  have ry : rung y = y := rung_of y (by omega)
  rw [fge_key x y (by omega) (by omega), key_of x (by omega), key_of y (by omega)]
  rw [decide_eq_decide]; omega
theorem min999 (p : Nat) : mn (p : Int) 999 = ((min p 999 : Nat) : Int) := by unfold mn; omega
theorem text_j (k x : Nat) (hx : x < 18446744073709551616) (hn : fnan x = false) (hi : rung x ≠ top) (s : List UInt8) (hs : s.length ≤ 1) (hk : 30 < k) : ratio_Text.j0 k x ⟨s.toArray⟩ = some ⟨(if 4845873199050653696 ≤ rung x then s ++ [98, 105, 103] else s ++ Dec.dec (wholeN (rung x)) ++ [46] ++ fillL (min (partN (rung x)) 999) 3).toArray⟩ := by
  have hr := not_nan x hn
  obtain ⟨k, rfl⟩ : ∃ m, k = m + 1 := ⟨k - 1, by omega⟩
  simp only [ratio_Text.j0]
  rw [abs_f x hx]
  simp only [Option.bind_some]
  rw [pos_ge (rung x) 4845873199050653696 hr (by decide)]
  generalize rung x = g at *
  by_cases h1 : 4845873199050653696 ≤ g
  · rw [if_pos (decide_eq_true h1), bsize, if_pos (by omega), if_pos h1]
    rw [show (⟨#[98, 105, 103]⟩ : ByteArray) = ⟨[(98 : UInt8), 105, 103].toArray⟩ from rfl, bapp]
  · rw [if_neg (by rw [decide_eq_true_eq]; exact h1), if_neg h1]
    obtain ⟨a1, a2, a3, a4, a5, a6, a7, a8, _⟩ := text_mid g (by omega)
    rw [if_pos a1, a2, if_pos a4, if_pos a5, if_pos a6, digits_f _ _ (by omega), hold_in _ (by omega) (by omega), a7, min999, Int.toNat_natCast]
    have hl := Dec.dec_len 15 (wholeN g) (by omega)
    have hl2 := Dec.dec_len 2 (min (partN g) 999) (by omega)
    have hf := fillL_len (min (partN g) 999) 3
    have hf2 : (fillL (min (partN g) 999) 3).length ≤ 3 := by rw [hf]; split <;> omega
    simp only [Option.bind_some]
    rw [bsize, bsize, if_pos (by omega), if_pos (by omega)]
    rw [show (3 : Int) = ((3 : Nat) : Int) from rfl, fill_f _ 3 (by omega) (by omega) _ (by omega)]
    simp only [Option.bind_some]
    rw [bsize, if_pos (by omega)]
    rw [show (⟨#[46]⟩ : ByteArray) = ⟨[(46 : UInt8)].toArray⟩ from rfl, bapp, bapp, bapp]
theorem key_top (x : Nat) (hn : fnan x = false) : (9218868437227405311 < key x ↔ (rung x = top ∧ sg x = false)) ∧ (key x < -9218868437227405311 ↔ (rung x = top ∧ sg x = true)) := by
  have hr := not_nan x hn
  have ht : top = 9218868437227405312 := rfl
  have hk : key x = if sg x then -(rung x : Int) else (rung x : Int) := rfl
  cases hs : sg x with
  | true => rw [hs, if_pos rfl] at hk; simp; omega
  | false => rw [hs, if_neg (by decide)] at hk; simp; omega
theorem neg_key (x : Nat) (hx : x < 18446744073709551616) : key (fneg x) = -key x ∧ rung (fneg x) = rung x := by
  have e : fneg x = x ^^^ 2 ^ 63 := rfl
  have r : rung (fneg x) = rung x := by
    rw [e]
    show (x ^^^ 2 ^ 63) % 2 ^ 63 = x % 2 ^ 63
    rw [Nat.xor_mod_two_pow]
    rw [Nat.mod_self, Nat.xor_zero]
  refine ⟨?_, r⟩
  have s : sg (fneg x) = !sg x := by
    rw [e]
    show ((x ^^^ 2 ^ 63) / 2 ^ 63 % 2 == 1) = !(x / 2 ^ 63 % 2 == 1)
    rw [Nat.xor_div_two_pow]
    have : x / 2 ^ 63 = 0 ∨ x / 2 ^ 63 = 1 := by omega
    rcases this with h | h <;> rw [h] <;> rfl
  unfold key
  rw [r, s]
  cases sg x <;> simp
theorem isinf_pos (x : Nat) (hx : x < 18446744073709551616) (hn : fnan x = false) : math_IsInf.f x 1 = some (decide (rung x = top ∧ sg x = false)) := by
  unfold math_IsInf.f
  rw [if_neg (by decide), if_neg (by decide), fgt_key x _ (nn hn) (by decide)]
  have := (key_top x hn).1
  rw [show key 9218868437227405311 = 9218868437227405311 by decide]
  congr 1
  rw [decide_eq_decide]; exact this
theorem isinf_neg (x : Nat) (hx : x < 18446744073709551616) (hn : fnan x = false) : math_IsInf.f x (-1) = some (decide (rung x = top ∧ sg x = true)) := by
  obtain ⟨h1, h2⟩ := neg_key x hx
  unfold math_IsInf.f
  rw [if_neg (by decide), if_pos (by decide), fgt_key (fneg x) _ (by rw [h2]; exact nn hn) (by decide), h1]
  have := (key_top x hn).2
  rw [show key 9218868437227405311 = 9218868437227405311 by decide]
  congr 1
  rw [decide_eq_decide]
  constructor
  · intro h; exact this.1 (by omega)
  · intro h; have := this.2 h; omega
theorem text_f (x : Nat) (hx : x < 18446744073709551616) (k : Nat) (hk : 30 < k) : ratio_Text.f k x = some ⟨(textL x).toArray⟩ := by
  unfold ratio_Text.f textL
  rw [isnan_f]
  simp only [Option.bind_some]
  cases hn : fnan x with
  | true => simp only [if_true]
  | false =>
    rw [isinf_pos x hx hn, isinf_neg x hx hn, signbit_f x hx]
    simp only [Option.bind_some, Bool.false_eq_true, if_false, decide_eq_true_eq]
    by_cases hi : rung x = top
    · cases hs : sg x with
      | true =>
        rw [if_neg (by simp), if_pos ⟨hi, rfl⟩, if_pos hi]
        unfold signL
        rw [hs]; rfl
      | false =>
        rw [if_pos ⟨hi, rfl⟩, if_pos hi]
        unfold signL
        rw [hs]; rfl
    · rw [if_neg (fun h => hi h.1), if_neg (fun h => hi h.1), if_neg hi]
      unfold signL
      cases hs : sg x with
      | true =>
        simp only [if_true]
        rw [show (⟨#[45]⟩ : ByteArray) = ⟨[(45 : UInt8)].toArray⟩ from rfl, text_j k x hx hn hi [45] (by decide) hk]
      | false =>
        simp only [Bool.false_eq_true, if_false]
        rw [show (⟨#[]⟩ : ByteArray) = ⟨([] : List UInt8).toArray⟩ from rfl, text_j k x hx hn hi [] (by decide) hk]
theorem isinf_any (x : Nat) (hx : x < 18446744073709551616) (hn : fnan x = false) : math_IsInf.f x 0 = some (decide (rung x = top)) := by
  have hr := not_nan x hn
  have ht := top_lt
  have ht2 : top = 9218868437227405312 := rfl
  unfold math_IsInf.f
  rw [if_pos rfl, abs_f x hx]
  simp only [Option.bind_some]
  rw [fgt_key (rung x) _ (by rw [rung_of _ (rung_lt x)]; exact hr) (by decide), key_of (rung x) (rung_lt x), show key 9218868437227405311 = 9218868437227405311 by decide]
  congr 1
  rw [decide_eq_decide]; omega
theorem shown_j (k x : Nat) (hx : x < 18446744073709551616) (hn : fnan x = false) (s : List UInt8) (hs : s.length ≤ 1) (hk : 50 < k) : turncockref1_Shown.j0 k x ⟨s.toArray⟩ = some ⟨(if rung x = top then s ++ [105, 110, 102] else if 4845873199050653696 ≤ rung x then s ++ [98, 105, 103] else s ++ Dec.dec (wholeN (rung x)) ++ [46] ++ fillL (min (partN (rung x)) 999) 3).toArray⟩ := by
  have hr := not_nan x hn
  obtain ⟨k, rfl⟩ : ∃ m, k = m + 1 := ⟨k - 1, by omega⟩
  simp only [turncockref1_Shown.j0]
  rw [isinf_any x hx hn, abs_f x hx]
  simp only [Option.bind_some, decide_eq_true_eq]
  rw [pos_ge (rung x) 4845873199050653696 hr (by decide)]
  generalize rung x = g at *
  by_cases h0 : g = top
  · rw [if_pos h0, if_pos h0, bsize, if_pos (by omega)]
    rw [show (⟨#[105, 110, 102]⟩ : ByteArray) = ⟨[(105 : UInt8), 110, 102].toArray⟩ from rfl, bapp]
  rw [if_neg h0, if_neg h0]
  by_cases h1 : 4845873199050653696 ≤ g
  · rw [if_pos (decide_eq_true h1), bsize, if_pos (by omega), if_pos h1]
    rw [show (⟨#[98, 105, 103]⟩ : ByteArray) = ⟨[(98 : UInt8), 105, 103].toArray⟩ from rfl, bapp]
  · rw [if_neg (by rw [decide_eq_true_eq]; exact h1), if_neg h1]
    obtain ⟨a1, a2, a3, a4, a5, a6, a7, a8, a9, a10, a11, a12, a13, a14, a15⟩ := text_mid g (by omega)
    unfold math_Floor.f
    rw [if_pos a9, a10]
    simp only [Option.bind_some]
    rw [if_pos a4, if_pos a5, if_pos a13]
    simp only [Option.bind_some]
    rw [if_pos a14, if_pos a11, a12, a15, rdigits_f _ _ (by omega), hold_in _ (by omega) (by omega), min999, Int.toNat_natCast]
    have hl := Dec.dec_len 15 (wholeN g) (by omega)
    have hl2 := Dec.dec_len 2 (min (partN g) 999) (by omega)
    have hf := fillL_len (min (partN g) 999) 3
    have hf2 : (fillL (min (partN g) 999) 3).length ≤ 3 := by rw [hf]; split <;> omega
    simp only [Option.bind_some]
    rw [bsize, bsize, if_pos (by omega), if_pos (by omega)]
    rw [show (3 : Int) = ((3 : Nat) : Int) from rfl, filled_f _ 3 (by omega) (by omega) _ (by omega)]
    simp only [Option.bind_some]
    rw [bsize, if_pos (by omega)]
    rw [show (⟨#[46]⟩ : ByteArray) = ⟨[(46 : UInt8)].toArray⟩ from rfl, bapp, bapp, bapp]
theorem shown_f (x : Nat) (hx : x < 18446744073709551616) (k : Nat) (hk : 50 < k) : turncockref1_Shown.f k x = some ⟨(textL x).toArray⟩ := by
  unfold turncockref1_Shown.f textL
  rw [isnan_f]
  simp only [Option.bind_some]
  cases hn : fnan x with
  | true => simp only [if_true]
  | false =>
    rw [signbit_f x hx]
    simp only [Option.bind_some, Bool.false_eq_true, if_false]
    unfold signL
    cases hs : sg x with
    | true =>
      simp only [if_true]
      rw [show (⟨#[45]⟩ : ByteArray) = ⟨[(45 : UInt8)].toArray⟩ from rfl, shown_j k x hx hn [45] (by decide) hk]
    | false =>
      simp only [Bool.false_eq_true, if_false]
      rw [show (⟨#[]⟩ : ByteArray) = ⟨([] : List UInt8).toArray⟩ from rfl, shown_j k x hx hn [] (by decide) hk]
def sec (u : Int) : Int := if u = 1 then 1 else if u = 2 then 60 else if u = 3 then 3600 else if u = 4 then 86400 else 0
theorem sec_cases (u : Int) : sec u = 0 ∨ sec u = 1 ∨ sec u = 60 ∨ sec u = 3600 ∨ sec u = 86400 := by
  unfold sec
  repeat' split
  all_goals omega
theorem u_cases (u : Int) : u < 1 ∨ u > 4 ∨ u = 1 ∨ u = 2 ∨ u = 3 ∨ u = 4 := by omega
theorem secs_f (u : Int) : unit_Secs.f u = some (sec u) := by
  rcases u_cases u with h | h | rfl | rfl | rfl | rfl
  · unfold unit_Secs.f sec
    rw [if_pos h, if_neg (by omega), if_neg (by omega), if_neg (by omega), if_neg (by omega)]
  · unfold unit_Secs.f sec
    rw [if_neg (by omega), if_pos h, if_neg (by omega), if_neg (by omega), if_neg (by omega), if_neg (by omega)]
  all_goals decide +kernel
theorem rsecs_f (u : Int) : turncockref15_Secs.f u = some (sec u) := by
  unfold turncockref15_Secs.f sec
  repeat' split
  all_goals rfl
def numL (n : Int) : List UInt8 := (if n < 0 then [45] else []) ++ Dec.dec n.natAbs
theorem dec_pre0 (n : Nat) (h : n ≠ 0) : Dec.dec n = Dec.pre n := by rw [Dec.dec_pre n, Dec.pre_step n h]
theorem enc_dig : ∀ d : Fin 10, Utf8.encode (48 + (d.val : Int)) = (⟨[UInt8.ofNat (48 + d.val)].toArray⟩ : ByteArray) := by decide +kernel
theorem tmod_abs (m : Nat) (x : Int) (hx : x = m ∨ x = -(m : Int)) (hm : m ≤ 9223372036854775808) : wrap32 (wrap64 (48 + mx (Int.tmod x 10) (wrap64 (-(Int.tmod x 10))))) = 48 + ((m % 10 : Nat) : Int) := by
  have e : Int.tmod (m : Int) 10 = ((m % 10 : Nat) : Int) := by rw [Int.tmod_eq_emod_of_nonneg (by omega)]; rfl
  rcases hx with rfl | rfl
  · rw [e]
    generalize hr : m % 10 = q
    have : q < 10 := by omega
    unfold mx wrap32 wrap64; omega
  · rw [Int.neg_tmod, e]
    generalize hr : m % 10 = q
    have : q < 10 := by omega
    unfold mx wrap32 wrap64; omega
theorem tdiv_abs (m : Nat) (x : Int) (hx : x = m ∨ x = -(m : Int)) (hm : m ≤ 9223372036854775808) : wrap64 (Int.tdiv x 10) = ((m / 10 : Nat) : Int) ∨ wrap64 (Int.tdiv x 10) = -((m / 10 : Nat) : Int) := by
  have e : Int.tdiv (m : Int) 10 = ((m / 10 : Nat) : Int) := by rw [Int.tdiv_eq_ediv_of_nonneg (by omega)]; rfl
  rcases hx with rfl | rfl
  · left; rw [e]
    generalize hr : m / 10 = q
    have : q ≤ 922337203685477580 := by omega
    unfold wrap64; omega
  · right; rw [Int.neg_tdiv, e]
    generalize hr : m / 10 = q
    have : q ≤ 922337203685477580 := by omega
    unfold wrap64; omega
theorem hd_l0 (neg : Bool) (d : Nat) : ∀ (k m : Nat) (x : Int) (acc : List UInt8), (x = m ∨ x = -(m : Int)) → m ≤ 9223372036854775808 → m < 10 ^ d → d < k → acc.length + d ≤ 1000 →
    head_digits.l0 k x ⟨acc.toArray⟩ neg = some ⟨((if neg then [45] else []) ++ (Dec.pre m ++ acc)).toArray⟩ := by
  have fin : ∀ (k : Nat) (x : Int) (acc : List UInt8), x = 0 → acc.length ≤ 1000 → head_digits.l0 (k + 1) x ⟨acc.toArray⟩ neg = some ⟨((if neg then [45] else []) ++ (Dec.pre 0 ++ acc)).toArray⟩ := by
    intro k x acc hx ha
    subst hx
    simp only [head_digits.l0, if_true]
    cases neg with
    | false => simp only [Bool.false_eq_true, if_false]; rfl
    | true =>
      simp only [if_true]
      rw [bsize, if_pos (by omega), show (⟨#[45]⟩ : ByteArray) = ⟨[(45 : UInt8)].toArray⟩ from rfl, bapp]
      rfl
  induction d with
  | zero =>
    intro k m x acc hx hm hn hk ha
    obtain ⟨k, rfl⟩ : ∃ m, k = m + 1 := ⟨k - 1, by omega⟩
    obtain rfl : m = 0 := by omega
    exact fin k x acc (by omega) (by omega)
  | succ d ih =>
    intro k m x acc hx hm hn hk ha
    obtain ⟨k, rfl⟩ : ∃ m, k = m + 1 := ⟨k - 1, by omega⟩
    by_cases h : m = 0
    · subst h; exact fin k x acc (by omega) (by omega)
    · simp only [head_digits.l0]
      rw [if_neg (by omega), tmod_abs m x hx hm]
      have e := enc_dig ⟨m % 10, by omega⟩
      simp only [] at e
      rw [e, bsize, bsize, if_pos (by simp; omega), bapp, ih k (m / 10) _ _ (tdiv_abs m x hx hm) (by omega) (by rw [Nat.pow_succ] at hn; omega) (by omega) (by simp; omega), Dec.pre_step m h]
      simp
theorem hdig_f (n : Int) (h0 : -9223372036854775808 ≤ n) (h1 : n ≤ 9223372036854775807) (k : Nat) (hk : 30 < k) : head_digits.f k n = some ⟨(numL n).toArray⟩ := by
  obtain ⟨k, rfl⟩ : ∃ m, k = m + 1 := ⟨k - 1, by omega⟩
  unfold head_digits.f numL
  have loop : ∀ neg : Bool, n ≠ 0 → head_digits.l0 k n (⟨#[]⟩ : ByteArray) neg = some ⟨((if neg then [45] else []) ++ Dec.dec n.natAbs).toArray⟩ := by
    intro neg hn
    have := hd_l0 neg 20 k n.natAbs n [] (by omega) (by omega) (by omega) (by omega) (by simp)
    rw [dec_pre0 _ (by omega)]
    rw [List.append_nil] at this
    exact this
  by_cases hn : n ≥ 0
  · rw [if_pos hn, if_neg (show ¬ n < 0 by omega)]
    by_cases hm : n ≤ 4611686018427387904
    · rw [decide_eq_true hm]
      simp only [head_digits.j0, if_true]
      rw [digits_f _ _ (by omega), hold_in n (by omega) hm]
      simp only [Option.bind_some]
      rw [show n.toNat = n.natAbs by omega]
      rfl
    · rw [decide_eq_false hm]
      simp only [head_digits.j0, Bool.false_eq_true, if_false]
      rw [decide_eq_false (show ¬ n < 0 by omega), loop false (by omega)]
      rfl
  · rw [if_neg hn, if_pos (show n < 0 by omega)]
    simp only [head_digits.j0, Bool.false_eq_true, if_false]
    rw [decide_eq_true (show n < 0 by omega), loop true (by omega)]
    rfl
theorem rn_str (n : Nat) : strOfNums [((48 + n % 10 : Nat) : Int)] = ⟨[UInt8.ofNat (48 + n % 10)].toArray⟩ := by
  show (⟨[toB ((48 + n % 10 : Nat) : Int)].toArray⟩ : ByteArray) = _
  rw [toB_nat]
theorem rn_dig (n : Nat) : IntKind.u64.wrap (48 + Int.tmod (n : Int) 10) % 256 = ((48 + n % 10 : Nat) : Int) := by
  rw [Int.tmod_eq_emod_of_nonneg (by omega), IntKind.wrap_u64]
  omega
theorem rn_quo (n : Nat) (h : n < 18446744073709551616) : IntKind.u64.wrap (Int.tdiv (n : Int) 10) = ((n / 10 : Nat) : Int) := by
  rw [Int.tdiv_eq_ediv_of_nonneg (by omega), IntKind.wrap_u64]
  omega
theorem rn_l0 (d : Nat) : ∀ (k n : Nat) (acc : List UInt8), acc ≠ [] → n < 18446744073709551616 → n < 10 ^ d → d < k → acc.length + d ≤ 1000 →
    turncockref26_digits.l0 k (n : Int) ⟨acc.toArray⟩ = some ⟨(Dec.pre n ++ acc).toArray⟩ := by
  have fin : ∀ (k : Nat) (acc : List UInt8), acc ≠ [] → turncockref26_digits.l0 (k + 1) ((0 : Nat) : Int) ⟨acc.toArray⟩ = some ⟨(Dec.pre 0 ++ acc).toArray⟩ := by
    intro k acc ha
    simp only [turncockref26_digits.l0]
    rw [if_neg (by omega), if_neg (by rw [ByteArray.toList_eq]; exact ha)]
    rfl
  induction d with
  | zero =>
    intro k n acc hne hm hn hk ha
    obtain ⟨k, rfl⟩ : ∃ m, k = m + 1 := ⟨k - 1, by omega⟩
    obtain rfl : n = 0 := by omega
    exact fin k acc hne
  | succ d ih =>
    intro k n acc hne hm hn hk ha
    obtain ⟨k, rfl⟩ : ∃ m, k = m + 1 := ⟨k - 1, by omega⟩
    by_cases h : n = 0
    · subst h; exact fin k acc hne
    · simp only [turncockref26_digits.l0]
      rw [if_pos (by omega), rn_dig, rn_quo n hm]
      simp only [Option.bind_some]
      rw [rn_str, bsize, bsize, if_pos (by simp; omega), bapp, ih k (n / 10) _ (by simp) (by omega) (by rw [Nat.pow_succ] at hn; omega) (by omega) (by simp; omega), Dec.pre_step n h]
      simp
theorem rn_f (n : Nat) (hn : n < 18446744073709551616) (k : Nat) (hk : 25 < k) : turncockref26_digits.f k (n : Int) = some ⟨(Dec.dec n).toArray⟩ := by
  obtain ⟨k, rfl⟩ : ∃ m, k = m + 1 := ⟨k - 1, by omega⟩
  unfold turncockref26_digits.f
  have step : turncockref26_digits.l0 k ((n / 10 : Nat) : Int) ⟨[UInt8.ofNat (48 + n % 10)].toArray⟩ = some ⟨(Dec.pre (n / 10) ++ [UInt8.ofNat (48 + n % 10)]).toArray⟩ := rn_l0 20 k (n / 10) _ (by simp) (by omega) (by omega) (by omega) (by simp)
  have e0 : (⟨#[]⟩ : ByteArray) = ⟨([] : List UInt8).toArray⟩ := rfl
  rw [e0]
  simp only [turncockref26_digits.l0]
  rw [rn_dig, rn_quo n hn]
  simp only [Option.bind_some]
  rw [rn_str, bsize, bsize, bapp, if_pos (show ([UInt8.ofNat (48 + n % 10)] : List UInt8).length + ([] : List UInt8).length ≤ 9223372036854775807 by simp), List.append_nil, step, Dec.dec_pre n]
  split
  · rfl
  · rw [if_pos (by rw [ByteArray.toList_eq])]
theorem rnum_f (n : Int) (h0 : -9223372036854775808 ≤ n) (h1 : n ≤ 9223372036854775807) (k : Nat) (hk : 30 < k) : turncockref26_Number.f k n = some ⟨(numL n).toArray⟩ := by
  unfold turncockref26_Number.f numL
  by_cases hn : n ≥ 0
  · have e : IntKind.u64.wrap n = ((n.natAbs : Nat) : Int) := by rw [IntKind.wrap_u64]; omega
    rw [if_pos hn, if_neg (show ¬ n < 0 by omega), e, rn_f _ (by omega) _ (by omega)]
    rfl
  · have e : IntKind.u64.wrap (-(IntKind.u64.wrap n)) = ((n.natAbs : Nat) : Int) := by rw [IntKind.wrap_u64, IntKind.wrap_u64]; omega
    have hl := Dec.dec_len 19 n.natAbs (by omega)
    rw [if_neg hn, if_pos (show n < 0 by omega), e, rn_f _ (by omega) _ (by omega)]
    simp only [Option.bind_some]
    rw [bsize, if_pos (by omega), show (⟨#[45]⟩ : ByteArray) = ⟨[(45 : UInt8)].toArray⟩ from rfl, bapp]
def R64 (n : Int) : Prop := -9223372036854775808 ≤ n ∧ n ≤ 9223372036854775807
def okS (x : S26) : Prop := R64 x.f1 ∧ R64 x.f3 ∧ R64 x.f4
theorem numL_len (n : Int) (h : R64 n) : (numL n).length ≤ 21 := by
  have hd := Dec.dec_len 19 n.natAbs (by unfold R64 at h; omega)
  unfold numL
  rw [List.length_append]
  split <;> simp <;> omega
def moreL (acc : List UInt8) (s : S26) : List UInt8 := acc ++ ([44, 32] ++ numL s.f1 ++ [59, 119, 61] ++ numL (sec s.f2))
def loadV (s : S26) : Nat := fquoT (fofi (wrap64 (s.f1 - s.f3))) (fofi s.f1)
def headsV (acc : List UInt8) (s : S26) : List S31 :=
  [⟨⟨#[120, 45, 114, 97, 116, 101, 108, 105, 109, 105, 116, 45, 108, 105, 109, 105, 116]⟩, ⟨(numL s.f1 ++ acc).toArray⟩⟩, ⟨⟨#[120, 45, 114, 97, 116, 101, 108, 105, 109, 105, 116, 45, 114, 101, 109, 97, 105, 110, 105, 110, 103]⟩, ⟨(numL s.f3).toArray⟩⟩, ⟨⟨#[120, 45, 114, 97, 116, 101, 108, 105, 109, 105, 116, 45, 114, 101, 115, 101, 116]⟩, ⟨(numL s.f4).toArray⟩⟩, ⟨⟨#[120, 45, 114, 97, 116, 101, 108, 105, 109, 105, 116, 45, 108, 111, 97, 100]⟩, ⟨(textL (loadV s)).toArray⟩⟩]
def goV : List S26 → Option S26 → List UInt8 → List S31
  | [], none, _ => []
  | [], some c, acc => headsV acc c
  | s :: t, c, acc => if sec s.f2 = 0 then goV t c acc else goV t (match c with | none => some s | some d => if s.f3 < d.f3 then some s else some d) (moreL acc s)
theorem sec_ne (u : Int) (h : sec u ≠ 0) : u ≠ 0 := by rintro rfl; exact h (by unfold sec; simp)
theorem sec_R (u : Int) : R64 (sec u) := by have := sec_cases u; unfold R64; omega
theorem moreL_len (acc : List UInt8) (s : S26) (h : okS s) : (moreL acc s).length ≤ acc.length + 60 := by
  have h1 := numL_len s.f1 h.1
  have h2 := numL_len (sec s.f2) (sec_R _)
  unfold moreL
  simp only [List.length_append, List.length_cons, List.length_nil]
  omega
def fz (c : Option S26) : S26 := match c with | none => ⟨0, 0, 0, 0, 0⟩ | some s => s
theorem loadV_lt (s : S26) (h : R64 s.f1) : loadV s < 18446744073709551616 := by
  unfold loadV
  have hn : R64 (wrap64 (s.f1 - s.f3)) := by unfold R64 wrap64; omega
  generalize wrap64 (s.f1 - s.f3) = n at hn
  generalize s.f1 = d at h
  unfold R64 at hn h
  by_cases h0 : d = 0
  · subst h0
    by_cases h1 : n = 0
    · subst h1
      have e : fquoT (fofi 0) (fofi 0) = 9221120237041090561 := by decide +kernel
      rw [e]; omega
    · obtain ⟨e1, e2⟩ := quo_zero n (by omega) h1
      have e : fquoT (fofi n) (fofi 0) = Ieee.double.word (decide (n < 0)) top := by unfold fquoT; rw [if_pos e1, e2]
      rw [e]
      exact word_lt _ _ (by have ht : top = 9218868437227405312 := rfl; omega)
  · obtain ⟨R, e1, e2, e3⟩ := quo_int n d (by omega) (by omega) h0
    have e : fquoT (fofi n) (fofi d) = Ieee.double.word (decide (n < 0) ^^ decide (d < 0)) (min R top) := by unfold fquoT; rw [if_pos e1, e2]
    rw [e]
    exact word_lt _ _ (by have ht : top = 9218868437227405312 := rfl; have := Nat.min_le_right R top; omega)
theorem of_l (L : List S26) (hN : L.length ≤ 200) (hl : ∀ x ∈ L, okS x) : ∀ (n : Nat) (i : Nat) (c : Option S26) (acc : List UInt8) (k : Nat), i + n = L.length → (∀ s, c = some s → okS s ∧ sec s.f2 ≠ 0) → acc.length ≤ 60 * i → 2 * n + 100 < k →
    head_Of.l0 k ⟨acc.toArray⟩ L (L.length : Int) (i : Int) (fz c).f0 (fz c).f1 (fz c).f2 (fz c).f3 (fz c).f4 = some (goV (L.drop i) c acc) := by
  intro n
  induction n with
  | zero =>
    intro i c acc k hi hc ha hk
    obtain ⟨k, rfl⟩ : ∃ m, k = m + 1 := ⟨k - 1, by omega⟩
    rw [List.drop_eq_nil_of_le (by omega)]
    simp only [head_Of.l0]
    rw [if_neg (by omega)]
    cases c with
    | none => rw [if_pos (show (fz none).f2 = 0 from rfl)]; rfl
    | some s =>
      obtain ⟨⟨r1, r3, r4⟩, hs⟩ := hc s rfl
      have l1 := numL_len s.f1 r1
      rw [if_neg (show ¬ (fz (some s)).f2 = 0 from sec_ne _ hs)]
      show ((head_digits.f k s.f1).bind _) = _
      rw [hdig_f _ r1.1 r1.2 _ (by omega)]
      simp only [Option.bind_some]
      rw [bsize, bsize, if_pos (by omega)]
      show ((head_digits.f k s.f3).bind fun t => (head_digits.f k s.f4).bind _) = _
      rw [hdig_f _ r3.1 r3.2 _ (by omega), hdig_f _ r4.1 r4.2 _ (by omega)]
      simp only [Option.bind_some]
      show ((ratio_Of.f (wrap64 (s.f1 - s.f3)) s.f1).bind _) = _
      rw [show ratio_Of.f (wrap64 (s.f1 - s.f3)) s.f1 = some (loadV s) from rfl]
      simp only [Option.bind_some]
      rw [text_f _ (loadV_lt s r1) _ (by omega), bapp]
      rfl
  | succ n ih =>
    intro i c acc k hi hc ha hk
    obtain ⟨K, rfl⟩ : ∃ m, k = m + 1 := ⟨k - 1, by omega⟩
    have hlt : i < L.length := by omega
    have hdrop : L.drop i = rd_T26 L (i : Int) :: L.drop (i + 1) := by
      rw [List.drop_eq_getElem_cons hlt]
      congr 1
      unfold rd_T26
      rw [Int.toNat_natCast, List.getD_eq_getElem?_getD, List.getElem?_eq_getElem hlt]; rfl
    have hmem : okS (rd_T26 L (i : Int)) := by
      have : rd_T26 L (i : Int) ∈ L.drop i := by rw [hdrop]; exact List.mem_cons_self
      exact hl _ (List.mem_of_mem_drop this)
    have hsz := hmem
    have w1 : wrap64 ((i : Int) + 1) = ((i + 1 : Nat) : Int) := by unfold wrap64; omega
    have l1 := numL_len (rd_T26 L (i : Int)).f1 hmem.1
    have l2 := numL_len (sec (rd_T26 L (i : Int)).f2) (sec_R _)
    have lm := moreL_len acc (rd_T26 L (i : Int)) hmem
    simp only [head_Of.l0]
    rw [if_pos (by omega), if_pos (by omega), if_pos (by omega), secs_f, hdrop]
    simp only [Option.bind_some]
    by_cases hs : sec (rd_T26 L (i : Int)).f2 = 0
    · rw [if_pos hs, w1, ih (i + 1) c acc K (by omega) hc (by omega) (by omega)]
      simp only [goV]
      rw [if_pos hs]
    · rw [if_neg hs]
      have body : ∀ (b : Bool) (ch : Option S26), (∀ x, ch = some x → okS x ∧ sec x.f2 ≠ 0) → (if b then rd_T26 L (i : Int) else fz c) = fz ch →
          head_Of.j1 K ⟨acc.toArray⟩ (sec (rd_T26 L (i : Int)).f2) L (L.length : Int) (i : Int) b (fz c).f0 (fz c).f1 (fz c).f2 (fz c).f3 (fz c).f4 (rd_T26 L (i : Int)).f0 (rd_T26 L (i : Int)).f1 (rd_T26 L (i : Int)).f2 (rd_T26 L (i : Int)).f3 (rd_T26 L (i : Int)).f4 = some (goV (L.drop (i + 1)) ch (moreL acc (rd_T26 L (i : Int)))) := by
        intro b ch hch he
        obtain ⟨k, rfl⟩ : ∃ m, K = m + 1 := ⟨K - 1, by omega⟩
        have nx := ih (i + 1) ch (moreL acc (rd_T26 L (i : Int))) k (by omega) hch (by omega) (by omega)
        have e1 : (⟨acc.toArray⟩ : ByteArray) ++ ((((⟨#[44, 32]⟩ : ByteArray) ++ ⟨(numL (rd_T26 L (i : Int)).f1).toArray⟩) ++ (⟨#[59, 119, 61]⟩ : ByteArray)) ++ ⟨(numL (sec (rd_T26 L (i : Int)).f2)).toArray⟩) = ⟨(moreL acc (rd_T26 L (i : Int))).toArray⟩ := by
          rw [show (⟨#[44, 32]⟩ : ByteArray) = ⟨[(44 : UInt8), 32].toArray⟩ from rfl, show (⟨#[59, 119, 61]⟩ : ByteArray) = ⟨[(59 : UInt8), 119, 61].toArray⟩ from rfl, bapp, bapp, bapp, bapp]
          rfl
        cases b with
        | true =>
          simp only [head_Of.j1, if_true]
          rw [hdig_f _ hmem.1.1 hmem.1.2 _ (by omega), hdig_f _ (sec_R _).1 (sec_R _).2 _ (by omega)]
          simp only [Option.bind_some, bsize]
          rw [if_pos (by omega), if_pos (by omega), if_pos (by omega), if_pos (by omega), e1, w1]
          rw [if_pos rfl] at he
          rw [← he] at nx
          exact nx
        | false =>
          simp only [head_Of.j1, Bool.false_eq_true, if_false]
          rw [hdig_f _ hmem.1.1 hmem.1.2 _ (by omega), hdig_f _ (sec_R _).1 (sec_R _).2 _ (by omega)]
          simp only [Option.bind_some, bsize]
          rw [if_pos (by omega), if_pos (by omega), if_pos (by omega), if_pos (by omega), e1, w1]
          rw [if_neg (by decide)] at he
          rw [← he] at nx
          exact nx
      simp only [goV]
      rw [if_neg hs]
      cases c with
      | none => rw [if_pos (show (fz none).f2 = 0 from rfl)]; exact body true (some _) (fun x hx => by obtain rfl := Option.some.inj hx; exact ⟨hmem, hs⟩) rfl
      | some d =>
        rw [if_neg (show ¬ (fz (some d)).f2 = 0 from sec_ne _ (hc d rfl).2)]
        by_cases hd : (rd_T26 L (i : Int)).f3 < d.f3
        · rw [decide_eq_true (show (rd_T26 L (i : Int)).f3 < (fz (some d)).f3 from hd)]
          simp only [if_pos hd]
          exact body true (some _) (fun x hx => by obtain rfl := Option.some.inj hx; exact ⟨hmem, hs⟩) rfl
        · rw [decide_eq_false (show ¬ (rd_T26 L (i : Int)).f3 < (fz (some d)).f3 from hd)]
          simp only [if_neg hd]
          exact body false (some d) hc rfl
theorem awake_ev : ∃ K, ∀ k, K ≤ k → turncocklaw28_awake.f k = some true := Ev.of turncocklaw28_awake.mono (k := 60) (by decide +kernel)
theorem same_l (V : List S31) (hV : V.length ≤ 1000) : ∀ (n i k : Nat), i + n = V.length → n < k → turncockref1_SameHeads.l0 k V V (i : Int) = some true := by
  intro n
  induction n with
  | zero =>
    intro i k hi hk
    obtain ⟨k, rfl⟩ : ∃ m, k = m + 1 := ⟨k - 1, by omega⟩
    simp only [turncockref1_SameHeads.l0]
    rw [if_neg (by omega)]
  | succ n ih =>
    intro i k hi hk
    obtain ⟨k, rfl⟩ : ∃ m, k = m + 1 := ⟨k - 1, by omega⟩
    have w1 : wrap64 ((i : Int) + 1) = ((i + 1 : Nat) : Int) := by unfold wrap64; omega
    simp only [turncockref1_SameHeads.l0]
    rw [if_pos (by omega), if_pos (by omega), if_pos (by omega), if_neg (by simp), w1]
    exact ih (i + 1) k (by omega) (by omega)
theorem same_f (V : List S31) (hV : V.length ≤ 1000) (k : Nat) (hk : 1000 < k) : turncockref1_SameHeads.f k V V = some true := by
  unfold turncockref1_SameHeads.f
  rw [if_pos rfl]
  exact same_l V hV V.length 0 k (by omega) (by omega)
theorem goV_len : ∀ (l : List S26) (c : Option S26) (acc : List UInt8), (goV l c acc).length ≤ 4
  | [], none, _ => by simp [goV]
  | [], some c, acc => by simp [goV, headsV]
  | s :: t, c, acc => by
    simp only [goV]
    split
    · exact goV_len t c acc
    · exact goV_len t _ _
/-! The headers tell of the first of those that have the least left. -/
theorem goV_filter : ∀ (L : List S26) (c : Option S26) (acc : List UInt8), goV (L.filter (fun s => decide (sec s.f2 ≠ 0))) c acc = goV L c acc
  | [], c, acc => rfl
  | s :: t, c, acc => by
    by_cases h : sec s.f2 = 0
    · rw [List.filter_cons_of_neg (by simpa using h), goV_filter t c acc]
      simp only [goV]
      rw [if_pos h]
    · rw [List.filter_cons_of_pos (by simpa using h)]
      simp only [goV]
      rw [if_neg h, if_neg h]
      exact goV_filter t _ _
/-- which status is chosen, and where it stands -/
def pickV : List S26 → Option S26 → Option S26
  | [], c => c
  | s :: t, c => if sec s.f2 = 0 then pickV t c else pickV t (match c with | none => some s | some d => if s.f3 < d.f3 then some s else some d)
theorem goV_pick : ∀ (L : List S26) (c : Option S26) (acc : List UInt8), (pickV L c = none ∧ goV L c acc = []) ∨ ∃ s acc', pickV L c = some s ∧ goV L c acc = headsV acc' s
  | [], none, acc => .inl ⟨rfl, rfl⟩
  | [], some s, acc => .inr ⟨s, acc, rfl, rfl⟩
  | s :: t, c, acc => by
    by_cases h : sec s.f2 = 0
    · simp only [pickV, goV]
      rw [if_pos h, if_pos h]
      exact goV_pick t c acc
    · simp only [pickV, goV]
      rw [if_neg h, if_neg h]
      exact goV_pick t _ _
theorem least_l (L : List S26) (hN : L.length ≤ 200) (hl : ∀ x ∈ L, okS x) (K : Nat) (hK : turncocklaw28_awake.f (K + 2000) = some true) (hA : ∀ k, K ≤ k → turncocklaw28_awake.f k = some true) :
    ∀ (n : Nat) (i : Nat) (at_ : Int) (c : Option S26) (k : Nat), i + n = L.length → ((at_ = -1 ∧ c = none) ∨ ∃ j : Nat, at_ = j ∧ j < i ∧ c = some (rd_T26 L (j : Int))) → pickV L none = pickV (L.drop i) c → K + 3000 + n < k →
    turncocklaw28_HeadLeast.l0 k L ((L.take i).filter (fun s => decide (sec s.f2 ≠ 0))) at_ (i : Int) = some true := by
  intro n
  induction n with
  | zero =>
    intro i at_ c k hi hc hp hk
    obtain ⟨k, rfl⟩ : ∃ m, k = m + 1 := ⟨k - 1, by omega⟩
    obtain rfl : i = L.length := by omega
    rw [List.drop_length] at hp
    rw [List.take_length]
    simp only [turncocklaw28_HeadLeast.l0]
    rw [if_neg (by omega)]
    have hlf : ∀ x ∈ L.filter (fun s => decide (sec s.f2 ≠ 0)), okS x := fun x hx => hl x (List.mem_filter.1 hx).1
    have hfl : (L.filter (fun s => decide (sec s.f2 ≠ 0))).length ≤ L.length := List.length_filter_le _ _
    have a := of_l L hN hl L.length 0 none [] k (by omega) (fun s hs => by cases hs) (by simp) (by omega)
    have b := of_l (L.filter (fun s => decide (sec s.f2 ≠ 0))) (by omega) hlf (L.filter (fun s => decide (sec s.f2 ≠ 0))).length 0 none [] k (by omega) (fun s hs => by cases hs) (by simp) (by omega)
    have a2 : head_Of.f k L = some (goV L none []) := a
    have b2 : head_Of.f k (L.filter (fun s => decide (sec s.f2 ≠ 0))) = some (goV L none []) := by
      have b3 : head_Of.f k (L.filter (fun s => decide (sec s.f2 ≠ 0))) = some (goV (L.filter (fun s => decide (sec s.f2 ≠ 0))) none []) := b
      rw [b3, goV_filter]
    rw [a2, b2]
    simp only [Option.bind_some]
    rw [same_f _ (by have := goV_len L none []; omega) _ (by omega)]
    simp only [Option.bind_some, if_true]
    obtain ⟨m, rfl⟩ : ∃ m, k = m + 1 := ⟨k - 1, by omega⟩
    have hw := hA m (by omega)
    rcases goV_pick L none [] with ⟨p1, p2⟩ | ⟨s, acc, p1, p2⟩
    · rw [p2]
      rw [hp] at p1
      rcases hc with ⟨rfl, rfl⟩ | ⟨j, rfl, hj, rfl⟩
      · have hx : (((([] : List S31).length : Int) == 4) != (decide ((-1 : Int) ≥ 0))) = false := by decide
        rw [hx]
        simp only [turncocklaw28_HeadLeast.j1, Bool.false_eq_true, if_false]
        rw [if_pos (by omega), if_pos (by simp), hw]
        rfl
      · cases p1
    · rw [p2]
      rw [hp] at p1
      rcases hc with ⟨rfl, rfl⟩ | ⟨j, rfl, hj, rfl⟩
      · cases p1
      · obtain rfl : rd_T26 L (j : Int) = s := Option.some.inj p1
        have hx : ((((headsV acc (rd_T26 L (j : Int))).length : Int) == 4) != (decide ((j : Int) ≥ 0))) = false := by
          rw [decide_eq_true (show (j : Int) ≥ 0 by omega)]; rfl
        rw [hx]
        have hok : okS (rd_T26 L (j : Int)) := by
          refine hl _ ?_
          unfold rd_T26
          rw [Int.toNat_natCast, List.getD_eq_getElem?_getD, List.getElem?_eq_getElem hj]
          exact List.getElem_mem hj
        obtain ⟨r1, r3, r4⟩ := hok
        simp only [turncocklaw28_HeadLeast.j1, Bool.false_eq_true, if_false]
        rw [if_neg (by omega), if_pos (by omega), if_pos (show (1 : Int) < ((headsV acc (rd_T26 L (j : Int))).length : Int) from by show (1 : Int) < 4; omega), if_pos (by omega), if_pos (by omega), rnum_f _ r3.1 r3.2 _ (by omega), rnum_f _ r4.1 r4.2 _ (by omega), hw]
        simp only [Option.bind_some]
        rw [if_pos (show (2 : Int) < ((headsV acc (rd_T26 L (j : Int))).length : Int) from by show (2 : Int) < 4; omega)]
        rw [if_pos (show ((rd_T31 (headsV acc (rd_T26 L (j : Int))) 1).f1).toList = (⟨(numL (rd_T26 L (j : Int)).f3).toArray⟩ : ByteArray).toList from rfl), if_pos (show ((rd_T31 (headsV acc (rd_T26 L (j : Int))) 2).f1).toList = (⟨(numL (rd_T26 L (j : Int)).f4).toArray⟩ : ByteArray).toList from rfl)]
  | succ n ih =>
    intro i at_ c k hi hc hp hk
    obtain ⟨k, rfl⟩ : ∃ m, k = m + 1 := ⟨k - 1, by omega⟩
    have hlt : i < L.length := by omega
    have hrd : rd_T26 L (i : Int) = L[i] := by
      unfold rd_T26
      rw [Int.toNat_natCast, List.getD_eq_getElem?_getD, List.getElem?_eq_getElem hlt]; rfl
    have hdrop : L.drop i = rd_T26 L (i : Int) :: L.drop (i + 1) := by rw [hrd]; exact List.drop_eq_getElem_cons hlt
    have htake : L.take (i + 1) = L.take i ++ [rd_T26 L (i : Int)] := by rw [hrd]; exact List.take_succ_eq_append_getElem hlt
    have w1 : wrap64 ((i : Int) + 1) = ((i + 1 : Nat) : Int) := by unfold wrap64; omega
    have hfl : ((L.take i).filter (fun s => decide (sec s.f2 ≠ 0))).length ≤ 200 := by
      have := List.length_filter_le (fun s : S26 => decide (sec s.f2 ≠ 0)) (L.take i)
      rw [List.length_take] at this; omega
    rw [hdrop] at hp
    simp only [turncocklaw28_HeadLeast.l0]
    rw [if_pos (by omega), if_pos (by omega), rsecs_f]
    simp only [Option.bind_some]
    by_cases hs : sec (rd_T26 L (i : Int)).f2 = 0
    · rw [if_pos hs, w1]
      have hf : (L.take (i + 1)).filter (fun s => decide (sec s.f2 ≠ 0)) = (L.take i).filter (fun s => decide (sec s.f2 ≠ 0)) := by
        rw [htake, List.filter_append, List.filter_cons_of_neg (by simpa using hs), List.filter_nil, List.append_nil]
      rw [← hf]
      refine ih (i + 1) at_ c k (by omega) ?_ ?_ (by omega)
      · rcases hc with h | ⟨j, e1, e2, e3⟩
        · exact .inl h
        · exact .inr ⟨j, e1, by omega, e3⟩
      · rw [hp]; simp only [pickV]; rw [if_pos hs]
    · rw [if_neg hs, if_pos (by omega), w1]
      have hf : (L.take (i + 1)).filter (fun s => decide (sec s.f2 ≠ 0)) = (L.take i).filter (fun s => decide (sec s.f2 ≠ 0)) ++ [(⟨(rd_T26 L (i : Int)).f0, (rd_T26 L (i : Int)).f1, (rd_T26 L (i : Int)).f2, (rd_T26 L (i : Int)).f3, (rd_T26 L (i : Int)).f4⟩ : S26)] := by
        rw [htake, List.filter_append, List.filter_cons_of_pos (by simpa using hs), List.filter_nil]
      rw [← hf]
      rcases hc with ⟨rfl, rfl⟩ | ⟨j, rfl, hj, rfl⟩
      · rw [if_pos (by omega)]
        refine ih (i + 1) _ (some (rd_T26 L (i : Int))) k (by omega) (.inr ⟨i, rfl, by omega, rfl⟩) ?_ (by omega)
        rw [hp]; simp only [pickV]; rw [if_neg hs]
      · rw [if_neg (by omega), if_pos (by omega), if_pos (by omega)]
        by_cases hd : (rd_T26 L (i : Int)).f3 < (rd_T26 L (j : Int)).f3
        · rw [if_pos hd]
          refine ih (i + 1) _ (some (rd_T26 L (i : Int))) k (by omega) (.inr ⟨i, rfl, by omega, rfl⟩) ?_ (by omega)
          rw [hp]; simp only [pickV]; rw [if_neg hs, if_pos hd]
        · rw [if_neg hd]
          refine ih (i + 1) _ (some (rd_T26 L (j : Int))) k (by omega) (.inr ⟨j, rfl, by omega, rfl⟩) ?_ (by omega)
          rw [hp]; simp only [pickV]; rw [if_neg hs, if_neg hd]
theorem okS_of (x : S26) (h : (Lit.int .i64 x.f0).wf = true ∧ (Lit.int .i64 x.f1).wf = true ∧ (Lit.int .i64 x.f2).wf = true ∧ (Lit.int .i64 x.f3).wf = true ∧ (Lit.int .i64 x.f4).wf = true) : okS x := by
  obtain ⟨_, h1, _, h3, h4⟩ := h
  exact ⟨int_of h1, int_of h3, int_of h4⟩
theorem HeadLeast (L : List S26) (hl0 : ∀ x ∈ L, (Lit.int .i64 x.f0).wf = true ∧ (Lit.int .i64 x.f1).wf = true ∧ (Lit.int .i64 x.f2).wf = true ∧ (Lit.int .i64 x.f3).wf = true ∧ (Lit.int .i64 x.f4).wf = true) : ∃ k, turncocklaw28_HeadLeast.f k L = some true := by
  have hl : ∀ x ∈ L, okS x := fun x hx => okS_of x (hl0 x hx)
  obtain ⟨K, hK⟩ := awake_ev
  refine ⟨K + 4000, ?_⟩
  unfold turncocklaw28_HeadLeast.f
  by_cases h : (L.length : Int) > 200
  · rw [if_pos h, hK _ (by omega)]; rfl
  · rw [if_neg h]
    exact least_l L (by omega) hl K (hK _ (by omega)) hK L.length 0 (-1) none (K + 4000) (by omega) (.inl ⟨rfl, rfl⟩) rfl (by omega)

end Go.Proofs.Ytoopmkinpandfaa.Pure
