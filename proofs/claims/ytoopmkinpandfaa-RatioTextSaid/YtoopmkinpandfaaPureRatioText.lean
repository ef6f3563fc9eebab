/- RatioText: any float's text is as the document says; for all bits, no condition. -/
import Derived.Test.YtoopmkinpandfaaPRatioTextx5
import Derived.Test.YtoopmkinpandfaaFth
import Derived.Test.YtoopmkinpandfaaDec
set_option linter.unusedSimpArgs false
set_option linter.unusedVariables false
namespace Go.Proofs.Ytoopmkinpandfaa.Pure
open Go.RowKit Go.Proofs.Ytoopmkinpandfaa.PRatioText Go.Proofs.YtoopmkinpandfaaW.PrintWords Go.Proofs.YtoopmkinpandfaaW.PrintLast Go.Proofs.YtoopmkinpandfaaW.PrintMore
open Go.Proofs.Ytoopmkinpandfaa

open Flt
theorem isnan_f (x : Nat) : math_IsNaN.f x = some (fnan x) := by unfold math_IsNaN.f; rw [fne_self]
theorem signbit_f (x : Nat) (h : x < 18446744073709551616) : math_Signbit.f x = some (sg x) := by unfold math_Signbit.f; rw [fsign_sg x h]
theorem bits_of {b : Int} (h : (Lit.int .u64 b).wf = true) : b.toNat < 18446744073709551616 := by
  have h2 : IntKind.min .u64 ≤ b ∧ b ≤ IntKind.max .u64 := by simpa [Lit.wf] using h
  have e1 : IntKind.min .u64 = 0 := by decide
  have e2 : IntKind.max .u64 = 18446744073709551615 := by decide
  omega
theorem int_of {b : Int} (h : (Lit.int .i64 b).wf = true) : -9223372036854775808 ≤ b ∧ b ≤ 9223372036854775807 := by
  have h2 : IntKind.min .i64 ≤ b ∧ b ≤ IntKind.max .i64 := by simpa [Lit.wf] using h
  have e1 : IntKind.min .i64 = -9223372036854775808 := by decide
  have e2 : IntKind.max .i64 = 9223372036854775807 := by decide
  omega
theorem of_f (b : Int) : turncocklaw5_of.f b = some b.toNat := rfl
theorem key_zero : key 0 = 0 := by decide
theorem key_one : key 4607182418800017408 = 4607182418800017408 := by decide
theorem nn {x : Nat} (h : fnan x = false) : rung x ≤ top := not_nan x h
theorem yn {x : Nat} (h : fnan x = true) : top < rung x := (fnan_iff x).1 h
def hold (a : Int) : Int := if a < 0 then 0 else if a > 4611686018427387904 then 4611686018427387904 else a
theorem hold_rng (a : Int) : 0 ≤ hold a ∧ hold a ≤ 4611686018427387904 := by
  unfold hold
  repeat' split
  all_goals omega
theorem hold_in (a : Int) (h0 : 0 ≤ a) (h1 : a ≤ 4611686018427387904) : hold a = a := by
  unfold hold
  rw [if_neg (by omega), if_neg (by omega)]
theorem numhold_f (a : Int) : num_Hold.f a = some (hold a) := by
  unfold num_Hold.f hold mx mn
  congr 1
  repeat' split
  all_goals omega
def toB (z : Int) : UInt8 := UInt8.ofNat z.toNat
theorem toB_nat (n : Nat) : toB (n : Int) = UInt8.ofNat n := by unfold toB; rw [Int.toNat_natCast]
theorem digit_term (n : Nat) : (wrap64 (48 + Int.tmod (n : Int) 10)) % 256 = ((48 + n % 10 : Nat) : Int) := by
  rw [Int.tmod_eq_emod_of_nonneg (by omega)]
  unfold wrap64
  omega
theorem quo_term (n : Nat) (h : n ≤ 4611686018427387904) : wrap64 (Int.tdiv (n : Int) 10) = ((n / 10 : Nat) : Int) := by
  rw [Int.tdiv_eq_ediv_of_nonneg (by omega)]
  unfold wrap64
  omega
theorem dig_l0 (d : Nat) : ∀ (k n : Nat) (acc : List Int), n ≤ 4611686018427387904 → n < 10 ^ d → d < k → acc.length + d ≤ 1000 →
    num_Digits.l0 k (n : Int) acc = some ⟨(Dec.pre n ++ acc.map toB).toArray⟩ := by
  induction d with
  | zero =>
    intro k n acc hm hn hk ha
    obtain ⟨k, rfl⟩ : ∃ m, k = m + 1 := ⟨k - 1, by omega⟩
    obtain rfl : n = 0 := by omega
    simp only [num_Digits.l0]
    rw [if_neg (by omega)]; rfl
  | succ d ih =>
    intro k n acc hm hn hk ha
    obtain ⟨k, rfl⟩ : ∃ m, k = m + 1 := ⟨k - 1, by omega⟩
    by_cases h : n = 0
    · subst h
      simp only [num_Digits.l0]
      rw [if_neg (by omega)]; rfl
    · simp only [num_Digits.l0]
      rw [if_pos (by omega), digit_term, quo_term n hm]
      simp only [Option.bind_some]
      rw [if_pos (by simp; omega), ih k (n / 10) _ (by omega) (by rw [Nat.pow_succ] at hn; omega) (by omega) (by simp; omega), Dec.pre_step n h]
      simp only [List.map_append, List.map_cons, List.map_nil, toB_nat, List.append_assoc]
theorem digits_f (a : Int) (k : Nat) (hk : 20 < k) : num_Digits.f k a = some ⟨(Dec.dec (hold a).toNat).toArray⟩ := by
  have ha := hold_rng a
  unfold num_Digits.f
  rw [numhold_f]
  simp only [Option.bind_some]
  obtain ⟨n, hn⟩ : ∃ n : Nat, hold a = n := ⟨(hold a).toNat, by omega⟩
  rw [hn] at ha ⊢
  rw [digit_term, quo_term n (by omega), dig_l0 19 k (n / 10) _ (by omega) (by omega) (by omega) (by simp)]
  rw [Int.toNat_natCast, Dec.dec_pre n]
  simp only [List.map_cons, List.map_nil, toB_nat]
theorem rhold_f (a : Int) : turncockref1_Hold.f a = some (hold a) := by
  unfold turncockref1_Hold.f hold
  repeat' split
  all_goals rfl
theorem rdig_l0 (d : Nat) : ∀ (k n : Nat) (acc : List UInt8), n ≤ 4611686018427387904 → n < 10 ^ d → d < k → acc.length + d ≤ 1000 →
    turncockref1_Digits.l0 k (n : Int) ⟨acc.toArray⟩ = some ⟨(Dec.pre n ++ acc).toArray⟩ := by
  induction d with
  | zero =>
    intro k n acc hm hn hk ha
    obtain ⟨k, rfl⟩ : ∃ m, k = m + 1 := ⟨k - 1, by omega⟩
    obtain rfl : n = 0 := by omega
    simp only [turncockref1_Digits.l0]
    rw [if_neg (by omega)]; rfl
  | succ d ih =>
    intro k n acc hm hn hk ha
    obtain ⟨k, rfl⟩ : ∃ m, k = m + 1 := ⟨k - 1, by omega⟩
    by_cases h : n = 0
    · subst h
      simp only [turncockref1_Digits.l0]
      rw [if_neg (by omega)]; rfl
    · simp only [turncockref1_Digits.l0]
      rw [if_pos (by omega), digit_term, quo_term n hm]
      simp only [Option.bind_some]
      have e : strOfNums [((48 + n % 10 : Nat) : Int)] ++ (⟨acc.toArray⟩ : ByteArray) = ⟨(UInt8.ofNat (48 + n % 10) :: acc).toArray⟩ := by
        have e1 : strOfNums [((48 + n % 10 : Nat) : Int)] = ⟨[UInt8.ofNat (48 + n % 10)].toArray⟩ := by
          show (⟨[toB ((48 + n % 10 : Nat) : Int)].toArray⟩ : ByteArray) = _
          rw [toB_nat]
        rw [e1]
        generalize UInt8.ofNat (48 + n % 10) = c
        apply ByteArray.ext
        simp [ByteArray.data_append]
      have hs1 : (strOfNums [((48 + n % 10 : Nat) : Int)]).size = 1 := rfl
      have hs2 : (⟨acc.toArray⟩ : ByteArray).size = acc.length := by show acc.toArray.size = _; simp
      rw [if_pos (by rw [hs1, hs2]; omega), e, ih k (n / 10) _ (by omega) (by rw [Nat.pow_succ] at hn; omega) (by omega) (by simp; omega), Dec.pre_step n h, List.append_assoc]
      rfl
theorem rdigits_f (a : Int) (k : Nat) (hk : 20 < k) : turncockref1_Digits.f k a = some ⟨(Dec.dec (hold a).toNat).toArray⟩ := by
  have ha := hold_rng a
  unfold turncockref1_Digits.f
  rw [rhold_f]
  simp only [Option.bind_some]
  obtain ⟨n, hn⟩ : ∃ n : Nat, hold a = n := ⟨(hold a).toNat, by omega⟩
  rw [hn] at ha ⊢
  rw [Int.toNat_natCast]
  by_cases h : n = 0
  · subst h; rw [if_pos (show ((0 : Nat) : Int) = 0 from rfl), Dec.dec_small 0 (by omega)]; rfl
  · rw [if_neg (by omega)]
    have := rdig_l0 19 k n [] (by omega) (by omega) (by omega) (by simp)
    rw [this, List.append_nil]
    unfold Dec.pre; rw [if_neg h]
def fillL (n d : Nat) : List UInt8 := List.replicate (d - (Dec.dec n).length) 48 ++ Dec.dec n
theorem bsize (l : List UInt8) : (⟨l.toArray⟩ : ByteArray).size = l.length := by show l.toArray.size = _; simp
theorem bapp (a b : List UInt8) : (⟨a.toArray⟩ : ByteArray) ++ ⟨b.toArray⟩ = ⟨(a ++ b).toArray⟩ := by apply ByteArray.ext; simp [ByteArray.data_append]
theorem repeat0 (c : Nat) : Lib.repeatL [48] c = List.replicate c 48 := by
  induction c with
  | zero => rfl
  | succ c ih => show [48] ++ Lib.repeatL [48] c = _; rw [ih]; rfl
theorem fill_f (n d : Nat) (hn : n ≤ 4611686018427387904) (hd : d ≤ 1000) (k : Nat) (hk : 20 < k) : ratio_fill.f k (n : Int) (d : Int) = some ⟨(fillL n d).toArray⟩ := by
  unfold ratio_fill.f
  rw [digits_f _ _ hk, hold_in _ (by omega) (by omega), Int.toNat_natCast]
  simp only [Option.bind_some]
  have hl := Dec.dec_len 18 n (by omega)
  have hb := bsize (Dec.dec n)
  have e : mx (wrap64 ((d : Int) - ((⟨(Dec.dec n).toArray⟩ : ByteArray).size : Int))) 0 = ((d - (Dec.dec n).length : Nat) : Int) := by
    rw [hb]
    unfold mx wrap64
    omega
  rw [e]
  have h1 : ((⟨#[48]⟩ : ByteArray)).size = 1 := rfl
  have h3 : strings_Repeat.f (⟨#[48]⟩ : ByteArray) ((d - (Dec.dec n).length : Nat) : Int) = some ⟨(List.replicate (d - (Dec.dec n).length) (48 : UInt8)).toArray⟩ := by
    unfold strings_Repeat.f
    rw [if_pos ⟨by omega, by omega, by rw [h1, Int.toNat_natCast]; omega⟩, Int.toNat_natCast]
    show some (⟨(Lib.repeatL [48] _).toArray⟩ : ByteArray) = _
    rw [repeat0]
  rw [h3]
  simp only [Option.bind_some]
  rw [bsize, hb, if_pos (by rw [List.length_replicate]; omega), bapp]
  rfl
theorem fillL_len (n d : Nat) : (fillL n d).length = if (Dec.dec n).length < d then d else (Dec.dec n).length := by
  unfold fillL
  rw [List.length_append, List.length_replicate]
  split <;> omega
theorem filled_l (d : Nat) (l : List UInt8) : ∀ (j k : Nat), d - l.length = j → l.length + j ≤ 2000 → j < k → turncockref1_filled.l0 k (d : Int) ⟨l.toArray⟩ = some ⟨(List.replicate j 48 ++ l).toArray⟩ := by
  intro j
  induction j generalizing l with
  | zero =>
    intro k hj hl hk
    obtain ⟨k, rfl⟩ : ∃ m, k = m + 1 := ⟨k - 1, by omega⟩
    simp only [turncockref1_filled.l0]
    rw [bsize, if_neg (by omega)]
    rfl
  | succ j ih =>
    intro k hj hl hk
    obtain ⟨k, rfl⟩ : ∃ m, k = m + 1 := ⟨k - 1, by omega⟩
    simp only [turncockref1_filled.l0]
    rw [bsize, if_pos (by omega), if_pos (by omega)]
    rw [show (⟨#[48]⟩ : ByteArray) = ⟨[(48 : UInt8)].toArray⟩ from rfl, bapp]
    have := ih ([(48 : UInt8)] ++ l) k (by simp; omega) (by simp; omega) (by omega)
    rw [this]
    congr 3
    rw [List.replicate_succ', List.append_assoc]
theorem filled_f (n d : Nat) (hn : n ≤ 4611686018427387904) (hd : d ≤ 1000) (k : Nat) (hk : 20 + d < k) : turncockref1_filled.f k (n : Int) (d : Int) = some ⟨(fillL n d).toArray⟩ := by
  unfold turncockref1_filled.f
  rw [rdigits_f _ _ (by omega), hold_in _ (by omega) (by omega), Int.toNat_natCast]
  simp only [Option.bind_some]
  have hl := Dec.dec_len 18 n (by omega)
  exact filled_l d (Dec.dec n) _ k rfl (by omega) (by omega)
def signL (x : Nat) : List UInt8 := if sg x then [45] else []
/-- whole and thousandths of a float below 2^53, by its rung -/
def wholeN (g : Nat) : Nat := mv g / U
def partN (g : Nat) : Nat := (f2i (fmul (fsub g (fofi (wholeN g : Int))) 4652007308841189376)).toNat
def textL (x : Nat) : List UInt8 :=
  if fnan x then [110, 97, 110] else
  if rung x = top then signL x ++ [105, 110, 102] else
  if 4845873199050653696 ≤ rung x then signL x ++ [98, 105, 103] else
  signL x ++ Dec.dec (wholeN (rung x)) ++ [46] ++ fillL (min (partN (rung x)) 999) 3
theorem mv_big : mv 4845873199050653696 = 9007199254740992 * U := by
  obtain ⟨E, hE⟩ : ∃ E, E = K74 + 1 := ⟨_, rfl⟩
  have hE2 : E = 1075 := by rw [hE]; rfl
  have h := mv_scale E 4503599627370496 (.inr ⟨by omega, by omega⟩)
  have e : E * 4503599627370496 + 4503599627370496 = 4845873199050653696 := by rw [hE2]
  have h2 : 2 ^ E = 2 ^ K74 * 2 := by rw [hE, Nat.pow_succ]
  rw [e, h2] at h
  rw [h]
  unfold U
  generalize 2 ^ K74 = z
  omega
theorem bits1000 : fofi ((1000 : Nat) : Int) = 4652007308841189376 := by decide +kernel
/-- what the text of a float below 2^53 is put together from -/
theorem text_mid (g : Nat) (hg : g < 4845873199050653696) : f2iOk g = true ∧ f2i g = (wholeN g : Int) ∧ wholeN g < 9007199254740992 ∧ fsubOk g (fofi (wholeN g : Int)) = true ∧
    fmulOk (fsub g (fofi (wholeN g : Int))) 4652007308841189376 = true ∧ f2iOk (fmul (fsub g (fofi (wholeN g : Int))) 4652007308841189376) = true ∧ f2i (fmul (fsub g (fofi (wholeN g : Int))) 4652007308841189376) = (partN g : Int) ∧ partN g ≤ 1000 ∧
    ffloorOk g = true ∧ ffloor g = fofi (wholeN g : Int) ∧ f2iOk (fofi (wholeN g : Int)) = true ∧ f2i (fofi (wholeN g : Int)) = (wholeN g : Int) ∧
    ffloorOk (fmul (fsub g (fofi (wholeN g : Int))) 4652007308841189376) = true ∧ f2iOk (ffloor (fmul (fsub g (fofi (wholeN g : Int))) 4652007308841189376)) = true ∧ f2i (ffloor (fmul (fsub g (fofi (wholeN g : Int))) 4652007308841189376)) = (partN g : Int) := by
  have ht : top = 9218868437227405312 := rfl
  have hU := U_pos
  have hW : wholeN g < 9007199254740992 := by
    unfold wholeN
    have h1 : mv g < 9007199254740992 * U := by rw [← mv_big]; exact mv_lt hg
    exact (Nat.div_lt_iff_lt_mul hU).2 h1
  have h2 := f2i_pos g (by omega) (by unfold wholeN at hW; generalize mv g / U = z at *; omega)
  have h3 := floor_pos g (by omega)
  obtain ⟨h4, h5⟩ := fofi_exact (wholeN g) (by omega)
  have hle : mv (fofi (wholeN g : Int)) ≤ mv g := by rw [h5]; exact Nat.div_mul_le_self _ _
  obtain ⟨h6, R1, h7, h8⟩ := fsub_pos g (fofi (wholeN g : Int)) (by omega) h4 hle
  have hlt : mv g - mv (fofi (wholeN g : Int)) ≤ U := by
    rw [h5]
    unfold wholeN
    have := Nat.div_add_mod (mv g) U
    have hm := Nat.mod_lt (mv g) hU
    rw [Nat.mul_comm] at this
    omega
  have hR1 : R1 ≤ 4607182418800017408 := h8.mono (d' := 1) (by omega) (by omega) (Rnd.exact 4607182418800017408 1 (by omega)) (by
    rw [mv_one]
    generalize mv g - mv (fofi (wholeN g : Int)) = z at *
    generalize U = u at *
    omega)
  have e1 : fsub g (fofi (wholeN g : Int)) = R1 := by rw [h7]; omega
  obtain ⟨q1, q2⟩ := fofi_exact 1000 (by omega)
  rw [bits1000] at q1 q2
  obtain ⟨h9, R2, h10, h11⟩ := fmul_pos R1 4652007308841189376 (by omega) q1
  have hR2 : R2 ≤ 4652007308841189376 := h11.mono (d' := 1) hU (by omega) (Rnd.exact 4652007308841189376 1 (by omega)) (by
    have a1 : mv R1 ≤ U := by rw [← mv_one]; exact mv_le hR1
    have a2 : mv R1 * mv 4652007308841189376 ≤ U * mv 4652007308841189376 := Nat.mul_le_mul_right _ a1
    generalize mv 4652007308841189376 = v at *
    rw [Nat.mul_one, Nat.mul_one, Nat.mul_comm v U]
    exact a2)
  have e2 : fmul R1 4652007308841189376 = R2 := by rw [h10]; omega
  have hP : mv R2 / U ≤ 1000 := by
    have := mv_le hR2
    rw [q2] at this
    exact (Nat.div_le_iff_le_mul_add_pred hU).2 (by rw [Nat.mul_comm U 1000]; omega)
  have h12 := f2i_pos R2 (by omega) (by generalize mv R2 / U = z at *; omega)
  have h13 := floor_pos R2 (by omega)
  have h14 := f2i_floor R2 (by omega) (by generalize mv R2 / U = z at *; omega)
  have h15 := f2i_pos (fofi (wholeN g : Int)) h4 (by rw [h5, Nat.mul_div_cancel _ hU]; omega)
  rw [h5, Nat.mul_div_cancel _ hU] at h15
  have eP : partN g = mv R2 / U := by unfold partN; rw [e1, e2, h12.2, Int.toNat_natCast]
  rw [e1, e2, eP]
  refine ⟨h2.1, h2.2, hW, h6, h9, h12.1, h12.2, hP, h3.1, h3.2, h15.1, h15.2, h13.1, h14.1, ?_⟩
  rw [h14.2, h12.2]
theorem abs_f (x : Nat) (h : x < 18446744073709551616) : math_Abs.f x = some (rung x) := by unfold math_Abs.f; rw [fabs_rung x h]
theorem pos_ge (x y : Nat) (hx : x ≤ top) (hy : y ≤ top) : fge x y = decide (y ≤ x) := by
  have ht := top_lt
  have rx : rung x = x := rung_of x (by omega)
  have ry : rung y = y := rung_of y (by omega)
  rw [fge_key x y (by omega) (by omega), key_of x (by omega), key_of y (by omega)]
  rw [decide_eq_decide]; omega
theorem min999 (p : Nat) : mn (p : Int) 999 = ((min p 999 : Nat) : Int) := by unfold mn; omega
theorem text_j (k x : Nat) (hx : x < 18446744073709551616) (hn : fnan x = false) (hi : rung x ≠ top) (s : List UInt8) (hs : s.length ≤ 1) (hk : 30 < k) : ratio_Text.j0 k x ⟨s.toArray⟩ = some ⟨(if 4845873199050653696 ≤ rung x then s ++ [98, 105, 103] else s ++ Dec.dec (wholeN (rung x)) ++ [46] ++ fillL (min (partN (rung x)) 999) 3).toArray⟩ := by
  have hr := not_nan x hn
  obtain ⟨k, rfl⟩ : ∃ m, k = m + 1 := ⟨k - 1, by omega⟩
  simp only [ratio_Text.j0]
  rw [abs_f x hx]
  simp only [Option.bind_some]
  rw [pos_ge (rung x) 4845873199050653696 hr (by decide)]
  generalize rung x = g at *
  by_cases h1 : 4845873199050653696 ≤ g
  · rw [if_pos (decide_eq_true h1), bsize, if_pos (by omega), if_pos h1]
    rw [show (⟨#[98, 105, 103]⟩ : ByteArray) = ⟨[(98 : UInt8), 105, 103].toArray⟩ from rfl, bapp]
  · rw [if_neg (by rw [decide_eq_true_eq]; exact h1), if_neg h1]
    obtain ⟨a1, a2, a3, a4, a5, a6, a7, a8, _⟩ := text_mid g (by omega)
    rw [if_pos a1, a2, if_pos a4, if_pos a5, if_pos a6, digits_f _ _ (by omega), hold_in _ (by omega) (by omega), a7, min999, Int.toNat_natCast]
    have hl := Dec.dec_len 15 (wholeN g) (by omega)
    have hl2 := Dec.dec_len 2 (min (partN g) 999) (by omega)
    have hf := fillL_len (min (partN g) 999) 3
    have hf2 : (fillL (min (partN g) 999) 3).length ≤ 3 := by rw [hf]; split <;> omega
    simp only [Option.bind_some]
    rw [bsize, bsize, if_pos (by omega), if_pos (by omega)]
    rw [show (3 : Int) = ((3 : Nat) : Int) from rfl, fill_f _ 3 (by omega) (by omega) _ (by omega)]
    simp only [Option.bind_some]
    rw [bsize, if_pos (by omega)]
    rw [show (⟨#[46]⟩ : ByteArray) = ⟨[(46 : UInt8)].toArray⟩ from rfl, bapp, bapp, bapp]
theorem key_top (x : Nat) (hn : fnan x = false) : (9218868437227405311 < key x ↔ (rung x = top ∧ sg x = false)) ∧ (key x < -9218868437227405311 ↔ (rung x = top ∧ sg x = true)) := by
  have hr := not_nan x hn
  have ht : top = 9218868437227405312 := rfl
  have hk : key x = if sg x then -(rung x : Int) else (rung x : Int) := rfl
  cases hs : sg x with
  | true => rw [hs, if_pos rfl] at hk; simp; omega
  | false => rw [hs, if_neg (by decide)] at hk; simp; omega
theorem neg_key (x : Nat) (hx : x < 18446744073709551616) : key (fneg x) = -key x ∧ rung (fneg x) = rung x := by
  have e : fneg x = x ^^^ 2 ^ 63 := rfl
  have r : rung (fneg x) = rung x := by
    rw [e]
    show (x ^^^ 2 ^ 63) % 2 ^ 63 = x % 2 ^ 63
    rw [Nat.xor_mod_two_pow]
    rw [Nat.mod_self, Nat.xor_zero]
  refine ⟨?_, r⟩
  have s : sg (fneg x) = !sg x := by
    rw [e]
    show ((x ^^^ 2 ^ 63) / 2 ^ 63 % 2 == 1) = !(x / 2 ^ 63 % 2 == 1)
    rw [Nat.xor_div_two_pow]
    have : x / 2 ^ 63 = 0 ∨ x / 2 ^ 63 = 1 := by omega
    rcases this with h | h <;> rw [h] <;> rfl
  unfold key
  rw [r, s]
  cases sg x <;> simp
theorem isinf_pos (x : Nat) (hx : x < 18446744073709551616) (hn : fnan x = false) : math_IsInf.f x 1 = some (decide (rung x = top ∧ sg x = false)) := by
  unfold math_IsInf.f
  rw [if_neg (by decide), if_neg (by decide), fgt_key x _ (nn hn) (by decide)]
  have := (key_top x hn).1
  rw [show key 9218868437227405311 = 9218868437227405311 by decide]
  congr 1
  rw [decide_eq_decide]; exact this
theorem isinf_neg (x : Nat) (hx : x < 18446744073709551616) (hn : fnan x = false) : math_IsInf.f x (-1) = some (decide (rung x = top ∧ sg x = true)) := by
  obtain ⟨h1, h2⟩ := neg_key x hx
  unfold math_IsInf.f
  rw [if_neg (by decide), if_pos (by decide), fgt_key (fneg x) _ (by rw [h2]; exact nn hn) (by decide), h1]
  have := (key_top x hn).2
  rw [show key 9218868437227405311 = 9218868437227405311 by decide]
  congr 1
  rw [decide_eq_decide]
  constructor
  · intro h; exact this.1 (by omega)
  · intro h; have := this.2 h; omega
theorem text_f (x : Nat) (hx : x < 18446744073709551616) (k : Nat) (hk : 30 < k) : ratio_Text.f k x = some ⟨(textL x).toArray⟩ := by
  unfold ratio_Text.f textL
  rw [isnan_f]
  simp only [Option.bind_some]
  cases hn : fnan x with
  | true => simp only [if_true]
  | false =>
    rw [isinf_pos x hx hn, isinf_neg x hx hn, signbit_f x hx]
    simp only [Option.bind_some, Bool.false_eq_true, if_false, decide_eq_true_eq]
    by_cases hi : rung x = top
    · cases hs : sg x with
      | true =>
        rw [if_neg (by simp), if_pos ⟨hi, rfl⟩, if_pos hi]
        unfold signL
        rw [hs]; rfl
      | false =>
        rw [if_pos ⟨hi, rfl⟩, if_pos hi]
        unfold signL
        rw [hs]; rfl
    · rw [if_neg (fun h => hi h.1), if_neg (fun h => hi h.1), if_neg hi]
      unfold signL
      cases hs : sg x with
      | true =>
        simp only [if_true]
        rw [show (⟨#[45]⟩ : ByteArray) = ⟨[(45 : UInt8)].toArray⟩ from rfl, text_j k x hx hn hi [45] (by decide) hk]
      | false =>
        simp only [Bool.false_eq_true, if_false]
        rw [show (⟨#[]⟩ : ByteArray) = ⟨([] : List UInt8).toArray⟩ from rfl, text_j k x hx hn hi [] (by decide) hk]
theorem isinf_any (x : Nat) (hx : x < 18446744073709551616) (hn : fnan x = false) : math_IsInf.f x 0 = some (decide (rung x = top)) := by
  have hr := not_nan x hn
  have ht := top_lt
  have ht2 : top = 9218868437227405312 := rfl
  unfold math_IsInf.f
  rw [if_pos rfl, abs_f x hx]
  simp only [Option.bind_some]
  rw [fgt_key (rung x) _ (by rw [rung_of _ (rung_lt x)]; exact hr) (by decide), key_of (rung x) (rung_lt x), show key 9218868437227405311 = 9218868437227405311 by decide]
  congr 1
  rw [decide_eq_decide]; omega
theorem shown_j (k x : Nat) (hx : x < 18446744073709551616) (hn : fnan x = false) (s : List UInt8) (hs : s.length ≤ 1) (hk : 50 < k) : turncockref1_Shown.j0 k x ⟨s.toArray⟩ = some ⟨(if rung x = top then s ++ [105, 110, 102] else if 4845873199050653696 ≤ rung x then s ++ [98, 105, 103] else s ++ Dec.dec (wholeN (rung x)) ++ [46] ++ fillL (min (partN (rung x)) 999) 3).toArray⟩ := by
  have hr := not_nan x hn
  obtain ⟨k, rfl⟩ : ∃ m, k = m + 1 := ⟨k - 1, by omega⟩
  simp only [turncockref1_Shown.j0]
  rw [isinf_any x hx hn, abs_f x hx]
  simp only [Option.bind_some, decide_eq_true_eq]
  rw [pos_ge (rung x) 4845873199050653696 hr (by decide)]
  generalize rung x = g at *
  by_cases h0 : g = top
  · rw [if_pos h0, if_pos h0, bsize, if_pos (by omega)]
    rw [show (⟨#[105, 110, 102]⟩ : ByteArray) = ⟨[(105 : UInt8), 110, 102].toArray⟩ from rfl, bapp]
  rw [if_neg h0, if_neg h0]
  by_cases h1 : 4845873199050653696 ≤ g
  · rw [if_pos (decide_eq_true h1), bsize, if_pos (by omega), if_pos h1]
    rw [show (⟨#[98, 105, 103]⟩ : ByteArray) = ⟨[(98 : UInt8), 105, 103].toArray⟩ from rfl, bapp]
  · rw [if_neg (by rw [decide_eq_true_eq]; exact h1), if_neg h1]
    obtain ⟨a1, a2, a3, a4, a5, a6, a7, a8, a9, a10, a11, a12, a13, a14, a15⟩ := text_mid g (by omega)
    unfold math_Floor.f
    rw [if_pos a9, a10]
    simp only [Option.bind_some]
    rw [if_pos a4, if_pos a5, if_pos a13]
    simp only [Option.bind_some]
    rw [if_pos a14, if_pos a11, a12, a15, rdigits_f _ _ (by omega), hold_in _ (by omega) (by omega), min999, Int.toNat_natCast]
    have hl := Dec.dec_len 15 (wholeN g) (by omega)
    have hl2 := Dec.dec_len 2 (min (partN g) 999) (by omega)
    have hf := fillL_len (min (partN g) 999) 3
    have hf2 : (fillL (min (partN g) 999) 3).length ≤ 3 := by rw [hf]; split <;> omega
    simp only [Option.bind_some]
    rw [bsize, bsize, if_pos (by omega), if_pos (by omega)]
    rw [show (3 : Int) = ((3 : Nat) : Int) from rfl, filled_f _ 3 (by omega) (by omega) _ (by omega)]
    simp only [Option.bind_some]
    rw [bsize, if_pos (by omega)]
    rw [show (⟨#[46]⟩ : ByteArray) = ⟨[(46 : UInt8)].toArray⟩ from rfl, bapp, bapp, bapp]
theorem shown_f (x : Nat) (hx : x < 18446744073709551616) (k : Nat) (hk : 50 < k) : turncockref1_Shown.f k x = some ⟨(textL x).toArray⟩ := by
  unfold turncockref1_Shown.f textL
  rw [isnan_f]
  simp only [Option.bind_some]
  cases hn : fnan x with
  | true => simp only [if_true]
  | false =>
    rw [signbit_f x hx]
    simp only [Option.bind_some, Bool.false_eq_true, if_false]
    unfold signL
    cases hs : sg x with
    | true =>
      simp only [if_true]
      rw [show (⟨#[45]⟩ : ByteArray) = ⟨[(45 : UInt8)].toArray⟩ from rfl, shown_j k x hx hn [45] (by decide) hk]
    | false =>
      simp only [Bool.false_eq_true, if_false]
      rw [show (⟨#[]⟩ : ByteArray) = ⟨([] : List UInt8).toArray⟩ from rfl, shown_j k x hx hn [] (by decide) hk]
theorem awake_ev : ∃ K, ∀ k, K ≤ k → turncocklaw5_awake.f k = some true := Ev.of turncocklaw5_awake.mono (k := 40) (by decide +kernel)
theorem RatioText : turncocklaw5_RatioText.Pure := by
  intro b wb
  have hb := bits_of wb
  obtain ⟨K, hK⟩ := awake_ev
  refine ⟨K + 60, ?_⟩
  have hw := hK (K + 60) (by omega)
  unfold turncocklaw5_RatioText.f
  simp only [of_f, Option.bind_some]
  rw [text_f _ hb _ (by omega), shown_f _ hb _ (by omega), hw]
  simp

end Go.Proofs.Ytoopmkinpandfaa.Pure
