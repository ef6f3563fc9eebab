/- What the law TrieFits uses, thinned: printed by shake2.py. -/
import Derived.Test.YtipbigdpannlcaaTTrieFitsPTrieFitsx13
import Derived.Test.YtipbigdpannlcaaTTrieFitsPTrieFitsx12
import Derived.Test.YtipbigdpannlcaaTTrieFitsPTrieFitsx6
import Derived.Test.YtipbigdpannlcaaTTrieFitsFth
import Derived.Test.YtipbigdpannlcaaTTrieFitsDec
set_option linter.unusedSimpArgs false
set_option linter.unusedVariables false
namespace Go.Proofs.Ytipbigdpannlcaa.Pure
open Go.RowKit Go.Proofs.Ytipbigdpannlcaa.PTrieFits Go.Proofs.YtipbigdpannlcaaW.PrintWords Go.Proofs.YtipbigdpannlcaaW.PrintLast Go.Proofs.YtipbigdpannlcaaW.PrintMore
open Go.Proofs.Ytipbigdpannlcaa
open Flt
theorem isnan_f (x : Nat) : math_IsNaN.f x = some (fnan x) := by unfold math_IsNaN.f; rw [fne_self]
theorem signbit_f (x : Nat) (h : x < 18446744073709551616) : math_Signbit.f x = some (sg x) := by unfold math_Signbit.f; rw [fsign_sg x h]
theorem int_of {b : Int} (h : (Lit.int .i64 b).wf = true) : -9223372036854775808 ≤ b ∧ b ≤ 9223372036854775807 := by
  have h2 : IntKind.min .i64 ≤ b ∧ b ≤ IntKind.max .i64 := by simpa [Lit.wf] using h
  have e1 : IntKind.min .i64 = -9223372036854775808 := by decide
  have e2 : IntKind.max .i64 = 9223372036854775807 := by decide
  omega
theorem key_zero : key 0 = 0 := by decide
theorem nn {x : Nat} (h : fnan x = false) : rung x ≤ top := not_nan x h
def hold (a : Int) : Int := if a < 0 then 0 else if a > 4611686018427387904 then 4611686018427387904 else a
theorem hold_rng (a : Int) : 0 ≤ hold a ∧ hold a ≤ 4611686018427387904 := by
  unfold hold
  repeat' split
  all_goals omega
theorem hold_in (a : Int) (h0 : 0 ≤ a) (h1 : a ≤ 4611686018427387904) : hold a = a := by
  unfold hold
  rw [if_neg (by omega), if_neg (by omega)]
theorem numhold_f (a : Int) : num_Hold.f a = some (hold a) := by
  unfold num_Hold.f hold mx mn
  congr 1
  repeat' split
  all_goals omega
def toB (z : Int) : UInt8 := UInt8.ofNat z.toNat
theorem toB_nat (n : Nat) : toB (n : Int) = UInt8.ofNat n := by unfold toB; rw [Int.toNat_natCast]
theorem digit_term (n : Nat) : (wrap64 (48 + Int.tmod (n : Int) 10)) % 256 = ((48 + n % 10 : Nat) : Int) := by
  rw [Int.tmod_eq_emod_of_nonneg (by omega)]
  unfold wrap64
  omega
theorem quo_term (n : Nat) (h : n ≤ 4611686018427387904) : wrap64 (Int.tdiv (n : Int) 10) = ((n / 10 : Nat) : Int) := by
  rw [Int.tdiv_eq_ediv_of_nonneg (by omega)]
  unfold wrap64
  omega
theorem dig_l0 (d : Nat) : ∀ (k n : Nat) (acc : List Int), n ≤ 4611686018427387904 → n < 10 ^ d → d < k → acc.length + d ≤ 1000 →
    num_Digits.l0 k (n : Int) acc = some ⟨(Dec.pre n ++ acc.map toB).toArray⟩ := by
  induction d with
  | zero =>
    intro k n acc hm hn hk ha
    obtain ⟨k, rfl⟩ : ∃ m, k = m + 1 := ⟨k - 1, by omega⟩
    obtain rfl : n = 0 := by omega
    simp only [num_Digits.l0]
    rw [if_neg (by omega)]; rfl
  | succ d ih =>
    intro k n acc hm hn hk ha
    obtain ⟨k, rfl⟩ : ∃ m, k = m + 1 := ⟨k - 1, by omega⟩
    by_cases h : n = 0
    · subst h
      simp only [num_Digits.l0]
      rw [if_neg (by omega)]; rfl
    · simp only [num_Digits.l0]
      rw [if_pos (by omega), digit_term, quo_term n hm]
      simp only [Option.bind_some]
      rw [if_pos (by simp; omega), ih k (n / 10) _ (by omega) (by rw [Nat.pow_succ] at hn; omega) (by omega) (by simp; omega), Dec.pre_step n h]
      simp only [List.map_append, List.map_cons, List.map_nil, toB_nat, List.append_assoc]
theorem digits_f (a : Int) (k : Nat) (hk : 20 < k) : num_Digits.f k a = some ⟨(Dec.dec (hold a).toNat).toArray⟩ := by
  have ha := hold_rng a
  unfold num_Digits.f
  rw [numhold_f]
  simp only [Option.bind_some]
  obtain ⟨n, hn⟩ : ∃ n : Nat, hold a = n := ⟨(hold a).toNat, by omega⟩
  rw [hn] at ha ⊢
  rw [digit_term, quo_term n (by omega), dig_l0 19 k (n / 10) _ (by omega) (by omega) (by omega) (by simp)]
  rw [Int.toNat_natCast, Dec.dec_pre n]
  simp only [List.map_cons, List.map_nil, toB_nat]
def fillL (n d : Nat) : List UInt8 := List.replicate (d - (Dec.dec n).length) 48 ++ Dec.dec n
theorem bsize (l : List UInt8) : (⟨l.toArray⟩ : ByteArray).size = l.length := by show l.toArray.size = _; simp
theorem bapp (a b : List UInt8) : (⟨a.toArray⟩ : ByteArray) ++ ⟨b.toArray⟩ = ⟨(a ++ b).toArray⟩ := by apply ByteArray.ext; simp [ByteArray.data_append]
theorem repeat0 (c : Nat) : Lib.repeatL [48] c = List.replicate c 48 := by
  induction c with
  | zero => rfl
  | succ c ih => show [48] ++ Lib.repeatL [48] c = _; rw [ih]; rfl
theorem fill_f (n d : Nat) (hn : n ≤ 4611686018427387904) (hd : d ≤ 1000) (k : Nat) (hk : 20 < k) : ratio_fill.f k (n : Int) (d : Int) = some ⟨(fillL n d).toArray⟩ := by
  unfold ratio_fill.f
  rw [digits_f _ _ hk, hold_in _ (by omega) (by omega), Int.toNat_natCast]
  simp only [Option.bind_some]
  have hl := Dec.dec_len 18 n (by omega)
  have hb := bsize (Dec.dec n)
  have e : mx (wrap64 ((d : Int) - ((⟨(Dec.dec n).toArray⟩ : ByteArray).size : Int))) 0 = ((d - (Dec.dec n).length : Nat) : Int) := by
    rw [hb]
    unfold mx wrap64
    omega
  rw [e]
  have h1 : ((⟨#[48]⟩ : ByteArray)).size = 1 := rfl
  have h3 : strings_Repeat.f (⟨#[48]⟩ : ByteArray) ((d - (Dec.dec n).length : Nat) : Int) = some ⟨(List.replicate (d - (Dec.dec n).length) (48 : UInt8)).toArray⟩ := by
    unfold strings_Repeat.f
    rw [if_pos ⟨by omega, by omega, by rw [h1, Int.toNat_natCast]; omega⟩, Int.toNat_natCast]
    show some (⟨(Lib.repeatL [48] _).toArray⟩ : ByteArray) = _
    rw [repeat0]
  rw [h3]
  simp only [Option.bind_some]
  rw [bsize, hb, if_pos (by rw [List.length_replicate]; omega), bapp]
  rfl
theorem fillL_len (n d : Nat) : (fillL n d).length = if (Dec.dec n).length < d then d else (Dec.dec n).length := by
  unfold fillL
  rw [List.length_append, List.length_replicate]
  split <;> omega
theorem quo_nat (n d : Nat) (hn : n ≤ 9007199254740992) (hd : d ≤ 9007199254740992) (h0 : 0 < d) : ∃ N D R : Nat, 0 < D ∧ fquoOk (fofi (n : Int)) (fofi (d : Int)) = true ∧ fquo (fofi (n : Int)) (fofi (d : Int)) = R ∧ R < top ∧ Rnd N D R ∧ (n = 0 → N = 0) ∧
    18014398509481984 * (N * d) ≤ 18014398509481985 * (D * (n * U)) ∧ 18014398509481983 * (D * (n * U)) ≤ 18014398509481984 * (N * d) := by
  have ht := top_lt
  have hU := U_pos
  obtain ⟨a1, a2⟩ := fofi_exact n hn
  obtain ⟨b1, b2⟩ := fofi_exact d hd
  have ra := rung_of (fofi (n : Int)) (by omega)
  have rb := rung_of (fofi (d : Int)) (by omega)
  have sa := sg_of (fofi (n : Int)) (by omega)
  have sb := sg_of (fofi (d : Int)) (by omega)
  obtain ⟨N, D, R, hD, hdiv, hR, hz, hu, hl⟩ := quo_some (fofi (n : Int)) (fofi (d : Int)) (by omega) (by omega) (by
    rw [rb]; intro h
    rw [h, mv_zero] at b2
    have := Nat.mul_pos h0 hU
    omega)
  rw [sa, sb] at hdiv
  rw [ra, rb, a2, b2] at hu hl
  rw [ra] at hz
  have e1 : 18014398509481984 * (N * (d * U)) = 18014398509481984 * (N * d) * U := by generalize U = u; simp only [Nat.mul_assoc]
  have e2 : 18014398509481985 * (D * (n * U * U)) = 18014398509481985 * (D * (n * U)) * U := by generalize U = u; simp only [Nat.mul_assoc]
  have e3 : 18014398509481984 * (N * (d * U)) = 18014398509481984 * (N * d) * U := e1
  have e4 : 18014398509481983 * (D * (n * U * U)) = 18014398509481983 * (D * (n * U)) * U := by generalize U = u; simp only [Nat.mul_assoc]
  rw [e1, e2] at hu
  rw [e4, e3] at hl
  have hu2 := Nat.le_of_mul_le_mul_right hu hU
  have hl2 := Nat.le_of_mul_le_mul_right hl hU
  have hRt : R < top := by
    obtain ⟨E, q1, q2⟩ := big64
    have hm := hR.mono hD (by omega) (Rnd.exact (E + 4503599627370496) 1 (by omega)) (by
      rw [q1, Nat.mul_one, Nat.mul_one]
      have h1 : N ≤ N * d := Nat.le_mul_of_pos_right _ h0
      have h2 : n * U ≤ 9007199254740992 * U := Nat.mul_le_mul_right _ hn
      have h3 : D * (n * U) ≤ D * (9007199254740992 * U) := Nat.mul_le_mul_left _ h2
      have h4 : D * (9007199254740992 * U) = 9007199254740992 * (D * U) := Nat.mul_left_comm _ _ _
      have h5 : 18446744073709551616 * U * D = 18446744073709551616 * (D * U) := by rw [Nat.mul_assoc, Nat.mul_comm U D]
      rw [h5]
      rw [h4] at h3
      generalize D * U = z at *
      generalize N * d = y at *
      generalize D * (n * U) = x at *
      omega)
    have ht2 : top = 9218868437227405312 := rfl
    omega
  have hq : FloatKind.f64.format.div (fofi (n : Int)) (fofi (d : Int)) = some (min R top) := hdiv
  refine ⟨N, D, R, hD, by unfold fquoOk; rw [hq]; rfl, ?_, hRt, hR, ?_, hu2, hl2⟩
  · unfold fquo
    rw [hq]
    show min R top = R
    omega
  · intro h
    refine hz ?_
    have a3 : mv (fofi (n : Int)) = mv 0 := by rw [a2, h, Nat.zero_mul, mv_zero]
    exact mv_inj a3
def quoV (n j : Nat) : Nat := fquo (fofi (n : Int)) (fofi ((10 ^ j : Nat) : Int))
theorem pow_le6 (j : Nat) (hj : j ≤ 6) : 10 ^ j ≤ 1000000 := by
  have : 10 ^ j ≤ 10 ^ 6 := Nat.pow_le_pow_right (by omega) hj
  have e : (10 : Nat) ^ 6 = 1000000 := by decide
  omega
theorem quoV_ok (n j : Nat) (hn : n ≤ 9007199254740992) (hj : j ≤ 6) : fquoOk (fofi (n : Int)) (fofi ((10 ^ j : Nat) : Int)) = true ∧ quoV n j < top := by
  have := pow_le6 j hj
  obtain ⟨N, D, R, _, h1, h2, h3, _⟩ := quo_nat n (10 ^ j) hn (by omega) (Nat.pow_pos (by omega))
  exact ⟨h1, by unfold quoV; rw [h2]; exact h3⟩
theorem copysign_f (R : Nat) (h : R < 9223372036854775808) : math_Copysign.f R 13830554455654793216 = some (Ieee.double.word true R) := by
  unfold math_Copysign.f
  rw [u64_andNot (R : Int) 9223372036854775808 (by omega) (by omega) (by omega) (by omega)]
  have e0 : 18446744073709551615 - (9223372036854775808 : Int).toNat = 2 ^ 63 - 1 := by decide
  have e1 : bits .and .u64 ((13830554455654793216 : Nat) : Int) 9223372036854775808 = ((9223372036854775808 : Nat) : Int) := by decide +kernel
  rw [e0, Int.toNat_natCast, Nat.and_two_pow_sub_one_eq_mod, Nat.mod_eq_of_lt (show R < 2 ^ 63 by omega), e1, u64_or (R : Int) ((9223372036854775808 : Nat) : Int) (by omega) (by omega) (by omega) (by omega)]
  rw [Int.toNat_natCast, Int.toNat_natCast, Int.toNat_natCast]
  have e2 : R ||| 9223372036854775808 = 2 ^ 63 + R := by
    rw [Nat.or_comm, show (9223372036854775808 : Nat) = 2 ^ 63 by decide, ← Nat.two_pow_add_eq_or_of_lt (show R < 2 ^ 63 by omega) 1]
  rw [e2]
  rfl
def dgB (c : UInt8) : Bool := decide (48 ≤ c.toNat) && decide (c.toNat ≤ 57)
def dgs (l : List UInt8) (m : Nat) : Bool := l.all dgB && decide (1 ≤ l.length) && decide (l.length ≤ m)
def valF (a : Nat) (l : List UInt8) : Nat := l.foldl (fun a c => a * 10 + (c.toNat - 48)) a
theorem byte_next (s : ByteArray) (pos : Nat) (h : pos < s.size) :
    ((s[pos]'h).toNat < 128 → (Utf8.decode s pos) = ((s[pos]'h).toNat, 1)) ∧ (128 ≤ (s[pos]'h).toNat → 128 ≤ (Utf8.decode s pos).1) :=
  ⟨fun ha => decode_ascii s pos h ha, fun ha => (decode_high s pos h ha).1⟩
theorem drop_cons (s : ByteArray) (pos : Nat) (h : pos < s.size) : s.data.toList.drop pos = s[pos]'h :: s.data.toList.drop (pos + 1) := by
  have hl : s.data.toList.length = s.size := by simp
  rw [List.drop_eq_getElem_cons (by omega)]; rfl
theorem drop_end (s : ByteArray) (pos : Nat) (h : ¬ pos < s.size) : s.data.toList.drop pos = [] := by
  have hl : s.data.toList.length = s.size := by simp
  exact List.drop_eq_nil_of_le (by omega)
theorem digits_l (s : ByteArray) (m : Nat) (d : Nat) : ∀ (k pos : Nat), pos + d = s.size → d < k →
    ratio_digits.l0 k s (m : Int) pos = some ((s.data.toList.drop pos).all dgB && decide (1 ≤ s.size) && decide (s.size ≤ m)) := by
  induction d with
  | zero =>
    intro k pos hp hk
    obtain ⟨k, rfl⟩ : ∃ m, k = m + 1 := ⟨k - 1, by omega⟩
    rw [drop_end s pos (by omega)]
    simp only [ratio_digits.l0]
    rw [if_neg (by omega)]
    by_cases h1 : 1 ≤ s.size
    · rw [if_pos (by omega), decide_eq_true h1]
      by_cases h2 : s.size ≤ m
      · rw [if_pos (by omega), decide_eq_true h2]; rfl
      · rw [if_neg (by omega), decide_eq_false h2]; rfl
    · rw [if_neg (by omega), decide_eq_false h1]; rfl
  | succ d ih =>
    intro k pos hp hk
    obtain ⟨k, rfl⟩ : ∃ m, k = m + 1 := ⟨k - 1, by omega⟩
    have hlt : pos < s.size := by omega
    obtain ⟨b1, b2⟩ := byte_next s pos hlt
    rw [drop_cons s pos hlt]
    simp only [ratio_digits.l0]
    rw [if_pos hlt, List.all_cons]
    generalize hb : s[pos]'hlt = b at *
    by_cases h1 : b.toNat < 128
    · rw [b1 h1]
      dsimp only
      by_cases c1 : b.toNat < 48
      · rw [if_pos (by omega)]
        have : dgB b = false := by unfold dgB; rw [decide_eq_false (by omega)]; rfl
        rw [this]; rfl
      · rw [if_neg (by omega)]
        by_cases c2 : 57 < b.toNat
        · rw [if_pos (by omega)]
          have : dgB b = false := by unfold dgB; rw [decide_eq_false (show ¬ b.toNat ≤ 57 by omega)]; simp
          rw [this]; rfl
        · rw [if_neg (by omega)]
          have : dgB b = true := by unfold dgB; rw [decide_eq_true (by omega), decide_eq_true (by omega)]; rfl
          rw [this, ih k (pos + 1) (by omega) (by omega)]
          simp
    · have h2 := b2 (by omega)
      rw [if_neg (by omega), if_pos (by omega)]
      have : dgB b = false := by unfold dgB; rw [decide_eq_false (show ¬ b.toNat ≤ 57 by omega)]; simp
      rw [this]; rfl
theorem digits_g (l : List UInt8) (m k : Nat) (hk : l.length < k) : ratio_digits.f k ⟨l.toArray⟩ (m : Int) = some (dgs l m) := by
  unfold ratio_digits.f
  rw [digits_l _ m l.length k 0 (by rw [bsize]; omega) hk, bsize]
  rfl
theorem value_l (s : ByteArray) (d : Nat) : ∀ (k pos a : Nat), pos + d = s.size → d < k → (s.data.toList.drop pos).all dgB = true → d ≤ 16 → a < 10 ^ (17 - d) →
    ratio_value.l0 k s pos (a : Int) = some (valF a (s.data.toList.drop pos) : Int) := by
  induction d with
  | zero =>
    intro k pos a hp hk hall hd ha
    obtain ⟨k, rfl⟩ : ∃ m, k = m + 1 := ⟨k - 1, by omega⟩
    rw [drop_end s pos (by omega)]
    simp only [ratio_value.l0]
    rw [if_neg (by omega)]; rfl
  | succ d ih =>
    intro k pos a hp hk hall hd ha
    obtain ⟨k, rfl⟩ : ∃ m, k = m + 1 := ⟨k - 1, by omega⟩
    have hlt : pos < s.size := by omega
    obtain ⟨b1, b2⟩ := byte_next s pos hlt
    rw [drop_cons s pos hlt] at hall ⊢
    simp only [ratio_value.l0]
    rw [if_pos hlt]
    generalize hb : s[pos]'hlt = b at *
    rw [List.all_cons, Bool.and_eq_true] at hall
    have hdb := hall.1
    unfold dgB at hdb
    rw [Bool.and_eq_true, decide_eq_true_eq, decide_eq_true_eq] at hdb
    rw [b1 (by omega)]
    dsimp only
    have hp2 : 10 ^ (17 - (d + 1)) ≤ 10 ^ 17 := Nat.pow_le_pow_right (by omega) (by omega)
    have hp3 : (10 : Nat) ^ 17 = 100000000000000000 := by decide
    rw [if_pos ⟨by omega, by omega, by omega, by omega⟩]
    have e : (10 * (a : Int) + ((b.toNat : Int) - 48)) = ((a * 10 + (b.toNat - 48) : Nat) : Int) := by omega
    rw [e]
    have hpow : 10 ^ (17 - d) = 10 ^ (17 - (d + 1)) * 10 := by rw [← Nat.pow_succ]; congr 1; omega
    exact ih k (pos + 1) _ (by omega) (by omega) hall.2 (by omega) (by rw [hpow]; omega)
theorem value_g (l : List UInt8) (k : Nat) (hk : l.length < k) (h : l.all dgB = true) (hl : l.length ≤ 16) : ratio_value.f k ⟨l.toArray⟩ = some (Dec.val l : Int) := by
  unfold ratio_value.f
  exact value_l ⟨l.toArray⟩ l.length k 0 0 (by rw [bsize]; omega) hk h hl (Nat.pow_pos (by omega))
theorem val_lt (l : List UInt8) (h : l.all dgB = true) : Dec.val l < 10 ^ l.length := by
  revert h
  refine Dec.snoc_ind (P := fun l => l.all dgB = true → Dec.val l < 10 ^ l.length) (fun _ => by decide) ?_ l
  intro l c ih h
  rw [List.all_append, Bool.and_eq_true] at h
  have h1 := ih h.1
  have h2 : dgB c = true := by simpa using h.2
  unfold dgB at h2
  rw [Bool.and_eq_true, decide_eq_true_eq, decide_eq_true_eq] at h2
  rw [Dec.val_snoc, List.length_append, List.length_singleton, Nat.pow_succ]
  omega
theorem ten_l (d : Nat) : ∀ (k i n : Nat), i + d ≤ 18 → n = 10 ^ i → d < k → ratio_ten.l0 k (n : Int) ((i + d : Nat) : Int) (i : Int) = some ((10 ^ (i + d) : Nat) : Int) := by
  induction d with
  | zero =>
    intro k i n hi hn hk
    obtain ⟨k, rfl⟩ : ∃ m, k = m + 1 := ⟨k - 1, by omega⟩
    simp only [ratio_ten.l0]
    rw [if_neg (by omega), hn]
    rfl
  | succ d ih =>
    intro k i n hi hn hk
    obtain ⟨k, rfl⟩ : ∃ m, k = m + 1 := ⟨k - 1, by omega⟩
    simp only [ratio_ten.l0]
    rw [if_pos (by omega)]
    have hb : n ≤ 10 ^ 17 := by rw [hn]; exact Nat.pow_le_pow_right (by omega) (by omega)
    have h17 : (10 : Nat) ^ 17 = 100000000000000000 := by decide
    have e1 : wrap64 ((n : Int) * 10) = ((n * 10 : Nat) : Int) := by unfold wrap64; omega
    have e2 : wrap64 ((i : Int) + 1) = ((i + 1 : Nat) : Int) := by unfold wrap64; omega
    rw [e1, e2, show i + (d + 1) = (i + 1) + d by omega]
    exact ih k (i + 1) (n * 10) (by omega) (by rw [hn, Nat.pow_succ]) (by omega)
theorem ten_f (j k : Nat) (hj : j ≤ 18) (hk : j < k) : ratio_ten.f k (j : Int) = some ((10 ^ j : Nat) : Int) := by
  have := ten_l j k 0 1 (by omega) rfl hk
  rw [Nat.zero_add] at this
  exact this
theorem mem_index (c : UInt8) : ∀ l : List UInt8, (c ∉ l → Lib.indexByte l c = -1) ∧ (∀ a b, l = a ++ c :: b → c ∉ a → Lib.indexByte l c = (a.length : Int))
  | [] => ⟨fun _ => rfl, fun a b h => by cases a <;> cases h⟩
  | x :: l => by
    obtain ⟨h1, h2⟩ := mem_index c l
    constructor
    · intro h
      have hx : ¬ c = x := fun e => h (by rw [e]; exact List.mem_cons_self)
      have hl : c ∉ l := fun e => h (List.mem_cons_of_mem _ e)
      unfold Lib.indexByte
      rw [if_neg (by simp; exact fun e => hx e.symm), h1 hl]; rfl
    · intro a b e ha
      unfold Lib.indexByte
      cases a with
      | nil =>
        rw [List.nil_append] at e
        injection e with e1 e2
        rw [e1, if_pos (by simp)]; rfl
      | cons y a =>
        rw [List.cons_append] at e
        injection e with e1 e2
        have hy : ¬ c = y := fun e => ha (by rw [e]; exact List.mem_cons_self)
        rw [if_neg (by rw [e1]; simp; exact fun e => hy e.symm), h2 a b e2 (fun h => ha (List.mem_cons_of_mem _ h))]
        rw [if_neg (by simp)]
        simp
theorem cut_miss (l : List UInt8) (h : (46 : UInt8) ∉ l) : Lib.cut l [46] = (l, [], false) := by
  unfold Lib.cut
  rw [Lib.index_one, (mem_index 46 l).1 h, if_neg (by omega)]
theorem cut_hit (a b : List UInt8) (h : (46 : UInt8) ∉ a) : Lib.cut (a ++ 46 :: b) [46] = (a, b, true) := by
  unfold Lib.cut
  rw [Lib.index_one, (mem_index 46 _).2 a b rfl h, if_pos (by omega), Int.toNat_natCast]
  congr 1
  · exact List.take_left' rfl
  · congr 1
    show (a ++ 46 :: b).drop (a.length + 1) = b
    rw [show a ++ 46 :: b = (a ++ [46]) ++ b by simp]
    exact List.drop_left' (by simp)
theorem first_of (c : UInt8) : ∀ l : List UInt8, c ∈ l → ∃ a b, l = a ++ c :: b ∧ c ∉ a
  | [], h => by cases h
  | x :: l, h => by
    by_cases e : c = x
    · subst e; exact ⟨[], l, rfl, by simp⟩
    · obtain ⟨a, b, h1, h2⟩ := first_of c l (by rcases List.mem_cons.1 h with h | h; exact absurd h e; exact h)
      exact ⟨x :: a, b, by rw [h1]; rfl, by intro h; rcases List.mem_cons.1 h with h | h; exact e h; exact h2 h⟩
theorem cut_cases (l : List UInt8) : ((46 : UInt8) ∉ l ∧ Lib.cut l [46] = (l, [], false)) ∨ ∃ a b, l = a ++ 46 :: b ∧ (46 : UInt8) ∉ a ∧ Lib.cut l [46] = (a, b, true) := by
  by_cases h : (46 : UInt8) ∈ l
  · obtain ⟨a, b, e, ha⟩ := first_of 46 l h
    exact .inr ⟨a, b, e, ha, by rw [e]; exact cut_hit a b ha⟩
  · exact .inl ⟨h, cut_miss l h⟩
def minusL : List UInt8 → Bool × List UInt8
  | 45 :: t => (true, t)
  | l => (false, l)
theorem cutprefix_f (l : List UInt8) (hl : l.length ≤ 9000000000000000000) : strings_CutPrefix.f ⟨l.toArray⟩ (⟨#[45]⟩ : ByteArray) = some (⟨(minusL l).2.toArray⟩, (minusL l).1) := by
  have h1 : ((⟨#[45]⟩ : ByteArray)).size = 1 := rfl
  unfold strings_CutPrefix.f stringslite_CutPrefix.f stringslite_HasPrefix.f
  rw [h1, bsize]
  cases l with
  | nil => rfl
  | cons x t =>
    rw [if_pos (by rw [List.length_cons]; omega), if_pos (by omega), if_pos (by rw [List.length_cons]; omega)]
    have e0 : ((⟨(x :: t).toArray⟩ : ByteArray).extract 0 (((1 : Nat) : Int) : Int).toNat).toList = [x] := by
      rw [ByteArray.toList_eq]
      simp [ByteArray.data_extract]
    have e2 : (⟨#[45]⟩ : ByteArray).toList = [45] := by rw [ByteArray.toList_eq]
    rw [e0, e2]
    simp only [Option.bind_some]
    by_cases hx : x = 45
    · subst hx
      rw [if_pos (by simp), if_pos (by omega), if_pos (by rw [List.length_cons]; omega)]
      have e1 : (⟨((45 : UInt8) :: t).toArray⟩ : ByteArray).extract (((1 : Nat) : Int) : Int).toNat (((45 : UInt8) :: t).length) = ⟨t.toArray⟩ := by
        apply ByteArray.ext
        simp [ByteArray.data_extract]
      rw [e1]; rfl
    · rw [if_neg (by simp; exact hx)]
      have e3 : minusL (x :: t) = (false, x :: t) := by
        unfold minusL
        split
        · rename_i e; injection e with e _; exact absurd e hx
        · rfl
      rw [e3]
      rfl
def okNum (w p : List UInt8) (pt : Bool) : Bool := dgs w 9 && !(decide (1 < w.length) && (w.head? == some 48)) && (!pt || dgs p 6)
def parseV (l : List UInt8) : Nat × Bool :=
  if l = [110, 97, 110] then (9221120237041090561, true) else if l = [105, 110, 102] then (9218868437227405312, true) else if l = [45, 105, 110, 102] then (18442240474082181120, true) else
  if okNum (Lib.cut (minusL l).2 [46]).1 (Lib.cut (minusL l).2 [46]).2.1 (Lib.cut (minusL l).2 [46]).2.2 then
    (Ieee.double.word (minusL l).1 (quoV (Dec.val ((Lib.cut (minusL l).2 [46]).1 ++ (Lib.cut (minusL l).2 [46]).2.1)) (Lib.cut (minusL l).2 [46]).2.1.length), true)
  else (0, false)
theorem minus_len (l : List UInt8) : (minusL l).2.length ≤ l.length := by
  unfold minusL
  split <;> simp
theorem cut_len (l : List UInt8) : (Lib.cut l [46]).1.length ≤ l.length ∧ (Lib.cut l [46]).2.1.length ≤ l.length ∧ ((Lib.cut l [46]).2.2 = false → (Lib.cut l [46]).2.1 = []) := by
  rcases cut_cases l with ⟨_, e⟩ | ⟨a, b, h, _, e⟩
  · rw [e]; exact ⟨Nat.le_refl _, by simp, fun _ => rfl⟩
  · rw [e, h]; simp; omega
theorem parse_j (k : Nat) (m : Bool) (w p : List UInt8) (hw : dgs w 9 = true) (hp : p = [] ∨ dgs p 6 = true) (hk : 30 < k) : ratio_Parse.j0 k m ⟨w.toArray⟩ ⟨p.toArray⟩ false = some (Ieee.double.word m (quoV (Dec.val (w ++ p)) p.length), true) := by
  obtain ⟨k, rfl⟩ : ∃ m, k = m + 1 := ⟨k - 1, by omega⟩
  simp only [ratio_Parse.j0, Bool.false_eq_true, if_false]
  unfold dgs at hw
  rw [Bool.and_eq_true, Bool.and_eq_true, decide_eq_true_eq, decide_eq_true_eq] at hw
  have hp2 : p.all dgB = true ∧ p.length ≤ 6 := by
    rcases hp with rfl | hp
    · exact ⟨rfl, by simp⟩
    · unfold dgs at hp
      rw [Bool.and_eq_true, Bool.and_eq_true, decide_eq_true_eq, decide_eq_true_eq] at hp
      exact ⟨hp.1.1, hp.2⟩
  have hall : (w ++ p).all dgB = true := by rw [List.all_append, hw.1.1, hp2.1]; rfl
  have hlen : (w ++ p).length ≤ 15 := by rw [List.length_append]; omega
  have hv : Dec.val (w ++ p) ≤ 9007199254740992 := by
    have h1 := val_lt _ hall
    have h2 : 10 ^ (w ++ p).length ≤ 10 ^ 15 := Nat.pow_le_pow_right (by omega) hlen
    have h3 : (10 : Nat) ^ 15 = 1000000000000000 := by decide
    omega
  obtain ⟨q1, q2⟩ := quoV_ok (Dec.val (w ++ p)) p.length hv hp2.2
  have ht := top_lt
  rw [bsize, bsize, if_pos (by omega), bapp, value_g (w ++ p) k (by omega) hall (by omega), ten_f p.length k (by omega) (by omega)]
  simp only [Option.bind_some]
  rw [if_pos q1]
  change (if m = true then (math_Copysign.f (quoV (Dec.val (w ++ p)) p.length) 13830554455654793216).bind _ else some (quoV (Dec.val (w ++ p)) p.length, true)) = _
  cases m with
  | true => rw [if_pos rfl, copysign_f _ (by omega)]; rfl
  | false => rw [if_neg (by decide)]; rfl
theorem ne_arr {l r : List UInt8} (h : l ≠ r) : ¬ (⟨l.toArray⟩ : ByteArray).toList = r := by rw [ByteArray.toList_eq]; simpa using h
theorem eq_arr {l r : List UInt8} (h : l = r) : (⟨l.toArray⟩ : ByteArray).toList = r := by rw [ByteArray.toList_eq, h]
theorem parse_f (l : List UInt8) (hl : l.length ≤ 1000000000000000) (k : Nat) (hk : l.length + 40 < k) : ratio_Parse.f k ⟨l.toArray⟩ = some (parseV l) := by
  unfold ratio_Parse.f parseV
  by_cases h1 : l = [110, 97, 110]
  · rw [if_pos (eq_arr h1), if_pos h1]; rfl
  rw [if_neg (ne_arr h1), if_neg h1]
  by_cases h2 : l = [105, 110, 102]
  · rw [if_pos (eq_arr h2), if_pos h2]; rfl
  rw [if_neg (ne_arr h2), if_neg h2]
  by_cases h3 : l = [45, 105, 110, 102]
  · rw [if_pos (eq_arr h3), if_pos h3]; rfl
  rw [if_neg (ne_arr h3), if_neg h3, cutprefix_f l (by omega)]
  simp only [Option.bind_some]
  have hm := minus_len l
  generalize (minusL l).1 = m at *
  generalize (minusL l).2 = s at *
  obtain ⟨c1, c2, c3⟩ := cut_len s
  unfold strings_Cut.f
  rw [if_pos ⟨rfl, by rw [bsize]; omega⟩]
  simp only [Option.bind_some]
  generalize (Lib.cut s [46]).1 = w at *
  generalize (Lib.cut s [46]).2.1 = p at *
  generalize (Lib.cut s [46]).2.2 = pt at *
  rw [show (9 : Int) = ((9 : Nat) : Int) from rfl, show (6 : Int) = ((6 : Nat) : Int) from rfl, digits_g w 9 k (by omega), digits_g p 6 k (by omega)]
  simp only [Option.bind_some]
  have no : ∀ q, ratio_Parse.j0 k m ⟨w.toArray⟩ q true = some (0, false) := by
    intro q
    obtain ⟨k, rfl⟩ : ∃ m, k = m + 1 := ⟨k - 1, by omega⟩
    simp only [ratio_Parse.j0, if_true]
  cases hw : dgs w 9 with
  | false =>
    rw [if_neg (by decide), no]
    have : okNum w p pt = false := by unfold okNum; rw [hw]; rfl
    rw [this]; rfl
  | true =>
    rw [if_pos rfl, bsize]
    have tail : (if pt = true then ratio_Parse.j0 k m ⟨w.toArray⟩ ⟨p.toArray⟩ (!dgs p 6) else ratio_Parse.j0 k m ⟨w.toArray⟩ ⟨p.toArray⟩ false) = some (if (!pt || dgs p 6) = true then (Ieee.double.word m (quoV (Dec.val (w ++ p)) p.length), true) else (0, false)) := by
      cases hpt : pt with
      | false =>
        rw [if_neg (by decide), parse_j k m w p hw (.inl (c3 hpt)) (by omega)]
        rfl
      | true =>
        rw [if_pos rfl]
        cases hp : dgs p 6 with
        | false => exact no _
        | true =>
          show ratio_Parse.j0 k m ⟨w.toArray⟩ ⟨p.toArray⟩ false = _
          rw [parse_j k m w p hw (.inr hp) (by omega)]; rfl
    by_cases h4 : 1 < w.length
    · rw [if_pos (by omega), if_pos (by omega)]
      have hb : (bt (⟨w.toArray⟩ : ByteArray) 0 = 48 ↔ (w.head? == some 48) = true) := by
        cases w with
        | nil => simp at h4
        | cons x t =>
          have e1 : bt (⟨(x :: t).toArray⟩ : ByteArray) 0 = (x.toNat : Int) := by
            unfold bt
            rw [dif_pos (show (0 : Int).toNat < (⟨(x :: t).toArray⟩ : ByteArray).size by rw [bsize, List.length_cons]; exact Nat.succ_pos _)]
            rfl
          have e2 : (((x :: t).head? == some 48) = true) ↔ x = 48 := by simp
          rw [e1, e2]
          have e3 : (48 : UInt8).toNat = 48 := rfl
          constructor
          · intro h; exact UInt8.toNat_inj.1 (by omega)
          · intro h; rw [h]; rfl
      by_cases h5 : (w.head? == some 48) = true
      · rw [if_pos (hb.2 h5), no]
        have : okNum w p pt = false := by unfold okNum; rw [hw, decide_eq_true h4, h5]; rfl
        rw [this]; rfl
      · rw [if_neg (fun h => h5 (hb.1 h)), tail]
        have e : (w.head? == some 48) = false := by simpa using h5
        unfold okNum
        rw [hw, e]
        simp
    · rw [if_neg (by omega), tail]
      unfold okNum
      rw [hw, decide_eq_false h4]
      simp
theorem cmpf_f (x y : Nat) (hx : fnan x = false) (hy : fnan y = false) : cmp_Compare_float64.f x y = some (sgn (key x - key y)) := by
  unfold cmp_Compare_float64.f cmp_isNaN_float64.f
  rw [fne_self, fne_self, hx, hy]
  simp only [Option.bind_some, Bool.false_eq_true, if_false]
  rw [flt_key x y (nn hx) (nn hy), fgt_key x y (nn hx) (nn hy)]
  simp only [decide_eq_true_eq]
  unfold sgn
  by_cases h1 : key x < key y
  · rw [if_pos h1, if_pos (show key x - key y < 0 by omega)]
  · rw [if_neg h1, if_neg (show ¬ key x - key y < 0 by omega)]
    by_cases h2 : key y < key x
    · rw [if_pos h2, if_neg (show ¬ key x - key y = 0 by omega)]
    · rw [if_neg h2, if_pos (show key x - key y = 0 by omega)]
theorem cmpi_f (x y : Int) : cmp_Compare_int.f x y = some (sgn (x - y)) := by
  unfold cmp_Compare_int.f cmp_isNaN_int.f
  rw [show (x != x) = false by simp, show (y != y) = false by simp]
  simp only [Option.bind_some, Bool.false_eq_true, if_false]
  unfold sgn
  by_cases h1 : x < y
  · rw [if_pos h1, if_pos (by omega)]
  · rw [if_neg h1, if_neg (show ¬ x - y < 0 by omega)]
    by_cases h2 : x > y
    · rw [if_pos h2, if_neg (by omega)]
    · rw [if_neg h2, if_pos (by omega)]
theorem place_f (x : Nat) : ratio_place.f x = some (if fnan x then 2 else sgn (key x)) := by
  unfold ratio_place.f
  rw [isnan_f]
  simp only [Option.bind_some]
  cases h : fnan x with
  | true => rfl
  | false =>
    rw [if_neg (by decide), if_neg (by decide), cmpf_f x 0 h (by decide), key_zero]
    simp
theorem sgn_cases (a : Int) : (a < 0 ∧ sgn a = -1) ∨ (a = 0 ∧ sgn a = 0) ∨ (0 < a ∧ sgn a = 1) := by
  unfold sgn
  by_cases h1 : a < 0
  · rw [if_pos h1]; exact .inl ⟨h1, rfl⟩
  · rw [if_neg h1]
    by_cases h2 : a = 0
    · rw [if_pos h2]; exact .inr (.inl ⟨h2, rfl⟩)
    · rw [if_neg h2]; exact .inr (.inr ⟨by omega, rfl⟩)
theorem sgn_of_lt {a : Int} (h : a < 0) : sgn a = -1 := by rcases sgn_cases a with h1 | h1 | h1 <;> omega
theorem sgn_of_gt {a : Int} (h : 0 < a) : sgn a = 1 := by rcases sgn_cases a with h1 | h1 | h1 <;> omega
theorem rank_top (x : Nat) (h : fnan x = false) : rank x < 9223372036854775807 := (rank_num x h).1
theorem order_f (x y : Nat) (hx : x < 18446744073709551616) (hy : y < 18446744073709551616) : ratio_Order.f x y = some (sgn (rank x - rank y)) := by
  unfold ratio_Order.f
  rw [place_f, place_f]
  simp only [Option.bind_some]
  cases nx : fnan x with
  | true =>
    cases ny : fnan y with
    | true =>
      simp only [if_true]
      rw [rank_nan x nx, rank_nan y ny]
      rfl
    | false =>
      simp only [if_true, Bool.false_eq_true, if_false]
      have := rank_top y ny
      have h0 := rank_nan x nx
      rw [sgn_of_gt (show 0 < rank x - rank y by omega)]
      rcases sgn_cases (key y) with ⟨_, e⟩ | ⟨_, e⟩ | ⟨_, e⟩ <;> rw [e] <;> rw [if_neg (by decide), cmpi_f] <;> rfl
  | false =>
    cases ny : fnan y with
    | true =>
      simp only [if_true, Bool.false_eq_true, if_false]
      have := rank_top x nx
      have h0 := rank_nan y ny
      rw [sgn_of_lt (show rank x - rank y < 0 by omega)]
      rcases sgn_cases (key x) with ⟨_, e⟩ | ⟨_, e⟩ | ⟨_, e⟩ <;> rw [e] <;> rw [if_neg (by decide), cmpi_f] <;> rfl
    | false =>
      simp only [Bool.false_eq_true, if_false]
      by_cases hs : sgn (key x) = sgn (key y)
      · rw [if_pos hs, if_neg (by rcases sgn_cases (key x) with h1 | h1 | h1 <;> omega)]
        by_cases h0 : sgn (key x) = 0
        · rw [if_pos h0, signbit_f x hx, signbit_f y hy]
          simp only [Option.bind_some]
          have k1 : key x = 0 := by rcases sgn_cases (key x) with h1 | h1 | h1 <;> omega
          have k2 : key y = 0 := by rcases sgn_cases (key y) with h1 | h1 | h1 <;> omega
          rw [rank_zero x nx k1, rank_zero y ny k2]
          cases sg x <;> cases sg y <;> rfl
        · rw [if_neg h0, cmpf_f x y nx ny]
          simp only [Option.bind_some]
          have k0 : key x ≠ 0 := fun h => h0 (by rw [h]; rfl)
          rcases sgn_cases (key x - key y) with ⟨h1, e⟩ | ⟨h1, e⟩ | ⟨h1, e⟩ <;> rw [e]
          · rw [sgn_of_lt (by have := rank_lt x y nx ny (by omega); omega)]
          · rw [show rank x - rank y = 0 by have := rank_eq x y nx ny (by omega) k0; omega]; rfl
          · rw [sgn_of_gt (by have := rank_lt y x ny nx (by omega); omega)]
      · rw [if_neg hs, cmpi_f]
        simp only [Option.bind_some]
        rcases sgn_cases (key x) with ⟨h1, e1⟩ | ⟨h1, e1⟩ | ⟨h1, e1⟩ <;> rcases sgn_cases (key y) with ⟨h2, e2⟩ | ⟨h2, e2⟩ | ⟨h2, e2⟩ <;> rw [e1, e2] at hs ⊢ <;> first
          | exact absurd rfl hs
          | (rw [sgn_of_lt (show rank x - rank y < 0 by have := rank_lt x y nx ny (by omega); omega)]; rfl)
          | (rw [sgn_of_gt (show 0 < rank x - rank y by have := rank_lt y x ny nx (by omega); omega)]; rfl)
theorem same_f (x y : Nat) (hx : x < 18446744073709551616) (hy : y < 18446744073709551616) : ratio_Same.f x y = some (sgn (rank x - rank y) == 0) := by
  unfold ratio_Same.f
  rw [order_f x y hx hy]
  rfl
def signL (x : Nat) : List UInt8 := if sg x then [45] else []
def wholeN (g : Nat) : Nat := mv g / U
def partN (g : Nat) : Nat := (f2i (fmul (fsub g (fofi (wholeN g : Int))) 4652007308841189376)).toNat
def textL (x : Nat) : List UInt8 :=
  if fnan x then [110, 97, 110] else
  if rung x = top then signL x ++ [105, 110, 102] else
  if 4845873199050653696 ≤ rung x then signL x ++ [98, 105, 103] else
  signL x ++ Dec.dec (wholeN (rung x)) ++ [46] ++ fillL (min (partN (rung x)) 999) 3
theorem mv_big : mv 4845873199050653696 = 9007199254740992 * U := by
  obtain ⟨E, hE⟩ : ∃ E, E = K74 + 1 := ⟨_, rfl⟩
  have hE2 : E = 1075 := by rw [hE]; rfl
  have h := mv_scale E 4503599627370496 (.inr ⟨by omega, by omega⟩)
  have e : E * 4503599627370496 + 4503599627370496 = 4845873199050653696 := by rw [hE2]
  have h2 : 2 ^ E = 2 ^ K74 * 2 := by rw [hE, Nat.pow_succ]
  rw [e, h2] at h
  rw [h]
  unfold U
  generalize 2 ^ K74 = z
  omega
theorem bits1000 : fofi ((1000 : Nat) : Int) = 4652007308841189376 := by decide +kernel
theorem text_mid (g : Nat) (hg : g < 4845873199050653696) : f2iOk g = true ∧ f2i g = (wholeN g : Int) ∧ wholeN g < 9007199254740992 ∧ fsubOk g (fofi (wholeN g : Int)) = true ∧
    fmulOk (fsub g (fofi (wholeN g : Int))) 4652007308841189376 = true ∧ f2iOk (fmul (fsub g (fofi (wholeN g : Int))) 4652007308841189376) = true ∧ f2i (fmul (fsub g (fofi (wholeN g : Int))) 4652007308841189376) = (partN g : Int) ∧ partN g ≤ 1000 ∧
    ffloorOk g = true ∧ ffloor g = fofi (wholeN g : Int) ∧ f2iOk (fofi (wholeN g : Int)) = true ∧ f2i (fofi (wholeN g : Int)) = (wholeN g : Int) ∧
    ffloorOk (fmul (fsub g (fofi (wholeN g : Int))) 4652007308841189376) = true ∧ f2iOk (ffloor (fmul (fsub g (fofi (wholeN g : Int))) 4652007308841189376)) = true ∧ f2i (ffloor (fmul (fsub g (fofi (wholeN g : Int))) 4652007308841189376)) = (partN g : Int) := by
  have ht : top = 9218868437227405312 := rfl
  have hU := U_pos
  have hW : wholeN g < 9007199254740992 := by
    unfold wholeN
    have h1 : mv g < 9007199254740992 * U := by rw [← mv_big]; exact mv_lt hg
    exact (Nat.div_lt_iff_lt_mul hU).2 h1
  have h2 := f2i_pos g (by omega) (by unfold wholeN at hW; generalize mv g / U = z at *; omega)
  have h3 := floor_pos g (by omega)
  obtain ⟨h4, h5⟩ := fofi_exact (wholeN g) (by omega)
  have hle : mv (fofi (wholeN g : Int)) ≤ mv g := by rw [h5]; exact Nat.div_mul_le_self _ _
  obtain ⟨h6, R1, h7, h8⟩ := fsub_pos g (fofi (wholeN g : Int)) (by omega) h4 hle
  have hlt : mv g - mv (fofi (wholeN g : Int)) ≤ U := by
    rw [h5]
    unfold wholeN
    have := Nat.div_add_mod (mv g) U
    have hm := Nat.mod_lt (mv g) hU
    rw [Nat.mul_comm] at this
    omega
  have hR1 : R1 ≤ 4607182418800017408 := h8.mono (d' := 1) (by omega) (by omega) (Rnd.exact 4607182418800017408 1 (by omega)) (by
    rw [mv_one]
    generalize mv g - mv (fofi (wholeN g : Int)) = z at *
    generalize U = u at *
    omega)
  have e1 : fsub g (fofi (wholeN g : Int)) = R1 := by rw [h7]; omega
  obtain ⟨q1, q2⟩ := fofi_exact 1000 (by omega)
  rw [bits1000] at q1 q2
  obtain ⟨h9, R2, h10, h11⟩ := fmul_pos R1 4652007308841189376 (by omega) q1
  have hR2 : R2 ≤ 4652007308841189376 := h11.mono (d' := 1) hU (by omega) (Rnd.exact 4652007308841189376 1 (by omega)) (by
    have a1 : mv R1 ≤ U := by rw [← mv_one]; exact mv_le hR1
    have a2 : mv R1 * mv 4652007308841189376 ≤ U * mv 4652007308841189376 := Nat.mul_le_mul_right _ a1
    generalize mv 4652007308841189376 = v at *
    rw [Nat.mul_one, Nat.mul_one, Nat.mul_comm v U]
    exact a2)
  have e2 : fmul R1 4652007308841189376 = R2 := by rw [h10]; omega
  have hP : mv R2 / U ≤ 1000 := by
    have := mv_le hR2
    rw [q2] at this
    exact (Nat.div_le_iff_le_mul_add_pred hU).2 (by rw [Nat.mul_comm U 1000]; omega)
  have h12 := f2i_pos R2 (by omega) (by generalize mv R2 / U = z at *; omega)
  have h13 := floor_pos R2 (by omega)
  have h14 := f2i_floor R2 (by omega) (by generalize mv R2 / U = z at *; omega)
  have h15 := f2i_pos (fofi (wholeN g : Int)) h4 (by rw [h5, Nat.mul_div_cancel _ hU]; omega)
  rw [h5, Nat.mul_div_cancel _ hU] at h15
  have eP : partN g = mv R2 / U := by unfold partN; rw [e1, e2, h12.2, Int.toNat_natCast]
  rw [e1, e2, eP]
  refine ⟨h2.1, h2.2, hW, h6, h9, h12.1, h12.2, hP, h3.1, h3.2, h15.1, h15.2, h13.1, h14.1, ?_⟩
  rw [h14.2, h12.2]
theorem abs_f (x : Nat) (h : x < 18446744073709551616) : math_Abs.f x = some (rung x) := by unfold math_Abs.f; rw [fabs_rung x h]
theorem pos_ge (x y : Nat) (hx : x ≤ top) (hy : y ≤ top) : fge x y = decide (y ≤ x) := by
  have ht := top_lt
  have rx : rung x = x := rung_of x (by omega)
  have ry : rung y = y := rung_of y (by omega)
  rw [fge_key x y (by omega) (by omega), key_of x (by omega), key_of y (by omega)]
  rw [decide_eq_decide]; omega
theorem min999 (p : Nat) : mn (p : Int) 999 = ((min p 999 : Nat) : Int) := by unfold mn; omega
theorem text_j (k x : Nat) (hx : x < 18446744073709551616) (hn : fnan x = false) (hi : rung x ≠ top) (s : List UInt8) (hs : s.length ≤ 1) (hk : 30 < k) : ratio_Text.j0 k x ⟨s.toArray⟩ = some ⟨(if 4845873199050653696 ≤ rung x then s ++ [98, 105, 103] else s ++ Dec.dec (wholeN (rung x)) ++ [46] ++ fillL (min (partN (rung x)) 999) 3).toArray⟩ := by
  have hr := not_nan x hn
  obtain ⟨k, rfl⟩ : ∃ m, k = m + 1 := ⟨k - 1, by omega⟩
  simp only [ratio_Text.j0]
  rw [abs_f x hx]
  simp only [Option.bind_some]
  rw [pos_ge (rung x) 4845873199050653696 hr (by decide)]
  generalize rung x = g at *
  by_cases h1 : 4845873199050653696 ≤ g
  · rw [if_pos (decide_eq_true h1), bsize, if_pos (by omega), if_pos h1]
    rw [show (⟨#[98, 105, 103]⟩ : ByteArray) = ⟨[(98 : UInt8), 105, 103].toArray⟩ from rfl, bapp]
  · rw [if_neg (by rw [decide_eq_true_eq]; exact h1), if_neg h1]
    obtain ⟨a1, a2, a3, a4, a5, a6, a7, a8, _⟩ := text_mid g (by omega)
    rw [if_pos a1, a2, if_pos a4, if_pos a5, if_pos a6, digits_f _ _ (by omega), hold_in _ (by omega) (by omega), a7, min999, Int.toNat_natCast]
    have hl := Dec.dec_len 15 (wholeN g) (by omega)
    have hl2 := Dec.dec_len 2 (min (partN g) 999) (by omega)
    have hf := fillL_len (min (partN g) 999) 3
    have hf2 : (fillL (min (partN g) 999) 3).length ≤ 3 := by rw [hf]; split <;> omega
    simp only [Option.bind_some]
    rw [bsize, bsize, if_pos (by omega), if_pos (by omega)]
    rw [show (3 : Int) = ((3 : Nat) : Int) from rfl, fill_f _ 3 (by omega) (by omega) _ (by omega)]
    simp only [Option.bind_some]
    rw [bsize, if_pos (by omega)]
    rw [show (⟨#[46]⟩ : ByteArray) = ⟨[(46 : UInt8)].toArray⟩ from rfl, bapp, bapp, bapp]
theorem key_top (x : Nat) (hn : fnan x = false) : (9218868437227405311 < key x ↔ (rung x = top ∧ sg x = false)) ∧ (key x < -9218868437227405311 ↔ (rung x = top ∧ sg x = true)) := by
  have hr := not_nan x hn
  have ht : top = 9218868437227405312 := rfl
  have hk : key x = if sg x then -(rung x : Int) else (rung x : Int) := rfl
  cases hs : sg x with
  | true => rw [hs, if_pos rfl] at hk; simp; omega
  | false => rw [hs, if_neg (by decide)] at hk; simp; omega
theorem neg_key (x : Nat) (hx : x < 18446744073709551616) : key (fneg x) = -key x ∧ rung (fneg x) = rung x := by
  have e : fneg x = x ^^^ 2 ^ 63 := rfl
  have r : rung (fneg x) = rung x := by
    rw [e]
    show (x ^^^ 2 ^ 63) % 2 ^ 63 = x % 2 ^ 63
    rw [Nat.xor_mod_two_pow]
    rw [Nat.mod_self, Nat.xor_zero]
  refine ⟨?_, r⟩
  have s : sg (fneg x) = !sg x := by
    rw [e]
    show ((x ^^^ 2 ^ 63) / 2 ^ 63 % 2 == 1) = !(x / 2 ^ 63 % 2 == 1)
    rw [Nat.xor_div_two_pow]
    have : x / 2 ^ 63 = 0 ∨ x / 2 ^ 63 = 1 := by omega
    rcases this with h | h <;> rw [h] <;> rfl
  unfold key
  rw [r, s]
  cases sg x <;> simp
theorem isinf_pos (x : Nat) (hx : x < 18446744073709551616) (hn : fnan x = false) : math_IsInf.f x 1 = some (decide (rung x = top ∧ sg x = false)) := by
  unfold math_IsInf.f
  rw [if_neg (by decide), if_neg (by decide), fgt_key x _ (nn hn) (by decide)]
  have := (key_top x hn).1
  rw [show key 9218868437227405311 = 9218868437227405311 by decide]
  congr 1
  rw [decide_eq_decide]; exact this
theorem isinf_neg (x : Nat) (hx : x < 18446744073709551616) (hn : fnan x = false) : math_IsInf.f x (-1) = some (decide (rung x = top ∧ sg x = true)) := by
  obtain ⟨h1, h2⟩ := neg_key x hx
  unfold math_IsInf.f
  rw [if_neg (by decide), if_pos (by decide), fgt_key (fneg x) _ (by rw [h2]; exact nn hn) (by decide), h1]
  have := (key_top x hn).2
  rw [show key 9218868437227405311 = 9218868437227405311 by decide]
  congr 1
  rw [decide_eq_decide]
  constructor
  · intro h; exact this.1 (by omega)
  · intro h; have := this.2 h; omega
theorem text_f (x : Nat) (hx : x < 18446744073709551616) (k : Nat) (hk : 30 < k) : ratio_Text.f k x = some ⟨(textL x).toArray⟩ := by
  unfold ratio_Text.f textL
  rw [isnan_f]
  simp only [Option.bind_some]
  cases hn : fnan x with
  | true => simp only [if_true]
  | false =>
    rw [isinf_pos x hx hn, isinf_neg x hx hn, signbit_f x hx]
    simp only [Option.bind_some, Bool.false_eq_true, if_false, decide_eq_true_eq]
    by_cases hi : rung x = top
    · cases hs : sg x with
      | true =>
        rw [if_neg (by simp), if_pos ⟨hi, rfl⟩, if_pos hi]
        unfold signL
        rw [hs]; rfl
      | false =>
        rw [if_pos ⟨hi, rfl⟩, if_pos hi]
        unfold signL
        rw [hs]; rfl
    · rw [if_neg (fun h => hi h.1), if_neg (fun h => hi h.1), if_neg hi]
      unfold signL
      cases hs : sg x with
      | true =>
        simp only [if_true]
        rw [show (⟨#[45]⟩ : ByteArray) = ⟨[(45 : UInt8)].toArray⟩ from rfl, text_j k x hx hn hi [45] (by decide) hk]
      | false =>
        simp only [Bool.false_eq_true, if_false]
        rw [show (⟨#[]⟩ : ByteArray) = ⟨([] : List UInt8).toArray⟩ from rfl, text_j k x hx hn hi [] (by decide) hk]
def textN (s : List UInt8) (n j : Nat) : List UInt8 := s ++ Dec.dec (n / 10 ^ j) ++ (if j = 0 then [] else 46 :: fillL (n % 10 ^ j) j)
def goodN (g j n : Nat) : Bool := decide (n / 10 ^ j ≤ 999999999) && (quoV n j == g)
def nearN (g j : Nat) : Nat := mv (fmul g (fofi ((10 ^ j : Nat) : Int))) / U
def tryN (g j : Nat) : Nat → Nat → Option Nat
  | _, 0 => none
  | n, c + 1 => if goodN g j n then some n else tryN g j (n + 1) c
def tryJ (s : List UInt8) (g : Nat) : Nat → Nat → List UInt8 × Bool
  | _, 0 => ([], false)
  | j, c + 1 => match tryN g j (nearN g j - 1) (nearN g j + 2 - (nearN g j - 1)) with
    | some n => (textN s n j, true)
    | none => tryJ s g (j + 1) c
def writeV (x : Nat) : List UInt8 × Bool :=
  if fnan x then ([110, 97, 110], true) else
  if rung x = top then (signL x ++ [105, 110, 102], true) else
  if 4741671816366391296 ≤ rung x then ([], false) else tryJ (signL x) (rung x) 0 7
theorem isDig_dgB (c : UInt8) (h : Dec.isDig c) : dgB c = true := by
  unfold Dec.isDig at h
  unfold dgB
  rw [decide_eq_true h.1, decide_eq_true h.2]; rfl
theorem dec_all (n : Nat) : (Dec.dec n).all dgB = true := List.all_eq_true.2 (fun c hc => isDig_dgB c (Dec.dec_digs n c hc))
theorem dec_len_le (d n : Nat) (h : n < 10 ^ d) (hd : 1 ≤ d) : (Dec.dec n).length ≤ d := by
  obtain ⟨d, rfl⟩ : ∃ e, d = e + 1 := ⟨d - 1, by omega⟩
  exact Dec.dec_len d n h
theorem dec_len_ge (d n : Nat) (h : 10 ^ d ≤ n) : d < (Dec.dec n).length := by
  have h1 := val_lt (Dec.dec n) (dec_all n)
  rw [Dec.val_dec] at h1
  exact (Nat.pow_lt_pow_iff_right (a := 10) (by omega)).1 (Nat.lt_of_le_of_lt h h1)
theorem fill_len (n j : Nat) (h : n < 10 ^ j) (hj : 1 ≤ j) : (fillL n j).length = j := by
  have := dec_len_le j n h hj
  rw [fillL_len]
  split <;> omega
theorem fill_all (n j : Nat) : (fillL n j).all dgB = true := by
  unfold fillL
  rw [List.all_append, dec_all, Bool.and_true, List.all_eq_true]
  intro c hc
  rw [List.eq_of_mem_replicate hc]
  decide
theorem val_app (a b : List UInt8) : Dec.val (a ++ b) = Dec.val a * 10 ^ b.length + Dec.val b := by
  refine Dec.snoc_ind (P := fun b => Dec.val (a ++ b) = Dec.val a * 10 ^ b.length + Dec.val b) ?_ ?_ b
  · simp [Dec.val]
  · intro l c ih
    rw [← List.append_assoc, Dec.val_snoc, ih, Dec.val_snoc, List.length_append, List.length_singleton, Nat.pow_succ, Nat.add_mul, Nat.mul_assoc]
    omega
theorem val_zeros (z : Nat) : Dec.val (List.replicate z 48) = 0 := by
  induction z with
  | zero => rfl
  | succ z ih => rw [List.replicate_succ', Dec.val_snoc, ih]; rfl
theorem val_fill (n j : Nat) : Dec.val (fillL n j) = n := by
  unfold fillL
  rw [val_app, val_zeros, Dec.val_dec]; omega
theorem not46 (l : List UInt8) (h : l.all dgB = true) : (46 : UInt8) ∉ l := by
  intro hm
  have := List.all_eq_true.1 h 46 hm
  revert this
  decide
theorem dec_head_ok (n : Nat) : (decide (1 < (Dec.dec n).length) && ((Dec.dec n).head? == some 48)) = false := by
  by_cases h : n < 10
  · rw [Dec.dec_small n h]; rfl
  · have := Dec.dec_head n (by omega)
    have e : ((Dec.dec n).head? == some 48) = false := by simpa using this
    rw [e, Bool.and_false]
theorem dec_first (n : Nat) : ∃ c t, Dec.dec n = c :: t ∧ dgB c = true := by
  cases h : Dec.dec n with
  | nil => exact absurd h (Dec.dec_ne n)
  | cons c t =>
    have := dec_all n
    rw [h, List.all_cons, Bool.and_eq_true] at this
    exact ⟨c, t, rfl, this.1⟩
theorem minus_text (m : Bool) (n j : Nat) : minusL (textN (if m then [45] else []) n j) = (m, textN [] n j) := by
  cases m with
  | true => rfl
  | false =>
    obtain ⟨c, t, e, hc⟩ := dec_first (n / 10 ^ j)
    show minusL (textN [] n j) = _
    unfold textN
    rw [List.nil_append, e]
    have : c ≠ 45 := by intro h; rw [h] at hc; revert hc; decide
    unfold minusL
    split
    · rename_i h1 h2; rw [List.cons_append] at h2; injection h2 with h2 _; exact absurd h2 this
    · rfl
theorem text_ne (m : Bool) (n j : Nat) : textN (if m then [45] else []) n j ≠ [110, 97, 110] ∧ textN (if m then [45] else []) n j ≠ [105, 110, 102] ∧ textN (if m then [45] else []) n j ≠ [45, 105, 110, 102] := by
  obtain ⟨c, t, e, hc⟩ := dec_first (n / 10 ^ j)
  unfold textN
  rw [e]
  have h1 : c ≠ 110 := by intro h; rw [h] at hc; revert hc; decide
  have h2 : c ≠ 105 := by intro h; rw [h] at hc; revert hc; decide
  have h3 : c ≠ 45 := by intro h; rw [h] at hc; revert hc; decide
  cases m <;> simp [h1, h2, h3]
theorem parse_text (m : Bool) (n j : Nat) (hj : j ≤ 6) : parseV (textN (if m then [45] else []) n j) = if n / 10 ^ j ≤ 999999999 then (Ieee.double.word m (quoV n j), true) else (0, false) := by
  obtain ⟨h1, h2, h3⟩ := text_ne m n j
  unfold parseV
  rw [if_neg h1, if_neg h2, if_neg h3, minus_text m n j]
  have hc : Lib.cut (textN [] n j) [46] = (Dec.dec (n / 10 ^ j), if j = 0 then [] else fillL (n % 10 ^ j) j, decide (j ≠ 0)) := by
    unfold textN
    rw [List.nil_append]
    by_cases h0 : j = 0
    · rw [if_pos h0, if_pos h0, List.append_nil, cut_miss _ (not46 _ (dec_all _)), decide_eq_false (by omega)]
    · rw [if_neg h0, if_neg h0, cut_hit _ _ (not46 _ (dec_all _)), decide_eq_true (by omega)]
  rw [hc]
  dsimp only
  have hval : Dec.val (Dec.dec (n / 10 ^ j) ++ if j = 0 then [] else fillL (n % 10 ^ j) j) = n ∧ (if j = 0 then [] else fillL (n % 10 ^ j) j : List UInt8).length = j := by
    by_cases h0 : j = 0
    · subst h0
      rw [if_pos rfl, List.append_nil, Dec.val_dec, Nat.pow_zero, Nat.div_one]
      exact ⟨rfl, rfl⟩
    · have hl := fill_len (n % 10 ^ j) j (Nat.mod_lt _ (Nat.pow_pos (by omega))) (by omega)
      rw [if_neg h0, val_app, hl, val_fill, Dec.val_dec, Nat.mul_comm]
      exact ⟨Nat.div_add_mod n (10 ^ j), rfl⟩
  rw [hval.1, hval.2]
  have hok : okNum (Dec.dec (n / 10 ^ j)) (if j = 0 then [] else fillL (n % 10 ^ j) j) (decide (j ≠ 0)) = decide (n / 10 ^ j ≤ 999999999) := by
    unfold okNum
    rw [dec_head_ok]
    have hp : (!decide (j ≠ 0) || dgs (if j = 0 then [] else fillL (n % 10 ^ j) j) 6) = true := by
      by_cases h0 : j = 0
      · rw [decide_eq_false (by omega)]; rfl
      · have hl := fill_len (n % 10 ^ j) j (Nat.mod_lt _ (Nat.pow_pos (by omega))) (by omega)
        rw [if_neg h0]
        unfold dgs
        rw [fill_all, hl, decide_eq_true (show 1 ≤ j by omega), decide_eq_true hj]
        simp
    rw [hp]
    simp only [Bool.not_false, Bool.and_true]
    have hne := Dec.dec_ne (n / 10 ^ j)
    have h1 : 1 ≤ (Dec.dec (n / 10 ^ j)).length := List.length_pos_iff.2 hne
    unfold dgs
    rw [dec_all, decide_eq_true h1]
    simp only [Bool.true_and]
    rw [decide_eq_decide]
    constructor
    · intro h
      false_or_by_contra
      have := dec_len_ge 9 (n / 10 ^ j) (by rw [show (10 : Nat) ^ 9 = 1000000000 by decide]; omega)
      omega
    · intro h
      exact dec_len_le 9 _ (by rw [show (10 : Nat) ^ 9 = 1000000000 by decide]; omega) (by omega)
  rw [hok]
  by_cases h : n / 10 ^ j ≤ 999999999
  · rw [decide_eq_true h, if_pos rfl, if_pos h]
  · rw [decide_eq_false h, if_neg (by decide), if_neg h]
theorem rank_word (m : Bool) (a b : Nat) (ha : a < top) (hb : b < top) : rank (Ieee.double.word m a) = rank (Ieee.double.word m b) ↔ a = b := by
  have ht : top = 9218868437227405312 := rfl
  have w : ∀ r, r < top → rank (Ieee.double.word m r) = if m then -(r : Int) - 1 else (r : Int) := by
    intro r hr
    have e : fnan (Ieee.double.word m r) = false := by
      show decide (top < rung (Ieee.double.word m r)) = false
      rw [word_rung m r (by omega)]
      exact decide_eq_false (by omega)
    unfold rank
    rw [e, word_sg m r (by omega), word_rung m r (by omega)]
    rfl
  rw [w a ha, w b hb]
  cases m <;> simp <;> omega
theorem bits9 : fofi ((10 ^ 9 : Nat) : Int) = 4741671816366391296 := by decide +kernel
theorem mv_bits9 : mv 4741671816366391296 = 1000000000 * U := by
  have := (fofi_exact (10 ^ 9) (by decide)).2
  have e : (10 : Nat) ^ 9 = 1000000000 := by decide
  rw [bits9, e] at this
  exact this
theorem near_ok (g j : Nat) (hg : g < 4741671816366391296) (hj : j ≤ 6) : fmulOk g (fofi ((10 ^ j : Nat) : Int)) = true ∧ f2iOk (fmul g (fofi ((10 ^ j : Nat) : Int))) = true ∧ f2i (fmul g (fofi ((10 ^ j : Nat) : Int))) = (nearN g j : Int) ∧ nearN g j ≤ 1000000000000000 ∧
    ∃ R, fmul g (fofi ((10 ^ j : Nat) : Int)) = R ∧ R < top ∧ Rnd (mv g * 10 ^ j) 1 R := by
  have ht : top = 9218868437227405312 := rfl
  have hU := U_pos
  have hp := pow_le6 j hj
  obtain ⟨a1, a2⟩ := fofi_exact (10 ^ j) (by omega)
  obtain ⟨b1, b2⟩ := fofi_exact 1000000000000000 (by omega)
  obtain ⟨h3, R, h4, h5⟩ := fmul_pos g (fofi ((10 ^ j : Nat) : Int)) (by omega) a1
  have h6 : Rnd (mv g * 10 ^ j) 1 R := by
    refine h5.congr hU ?_ (by omega)
    rw [a2, Nat.mul_one, Nat.mul_assoc]
  have hm : mv g ≤ 1000000000 * U := by rw [← mv_bits9]; exact mv_le (by omega)
  have h8 : R ≤ fofi ((1000000000000000 : Nat) : Int) := h6.mono (d' := 1) (by omega) (by omega) (Rnd.exact _ 1 (by omega)) (by
    rw [b2]
    have h1 : mv g * 10 ^ j ≤ 1000000000 * U * 1000000 := Nat.mul_le_mul hm hp
    generalize mv g * 10 ^ j = z at *
    generalize U = u at *
    omega)
  have hR : R < top := by omega
  have e : fmul g (fofi ((10 ^ j : Nat) : Int)) = R := by rw [h4]; omega
  have h9 : mv R / U ≤ 1000000000000000 := by
    have := mv_le h8
    rw [b2] at this
    exact (Nat.div_le_iff_le_mul_add_pred hU).2 (by rw [Nat.mul_comm U]; omega)
  have h10 := f2i_pos R hR (by generalize mv R / U = z at *; omega)
  unfold nearN
  rw [e]
  exact ⟨h3, h10.1, h10.2, h9, R, rfl, hR, h6⟩
theorem sign_if (x : Nat) : signL x = if sg x then [45] else [] := rfl
theorem same_word (x g r : Nat) (hx : x < 18446744073709551616) (hg : rung x = g) (hgt : g < top) (hr : r < top) : ratio_Same.f x (Ieee.double.word (sg x) r) = some (r == g) := by
  have ht := top_lt
  rw [same_f x _ hx (word_lt _ _ (by omega))]
  have e := word_of x hx
  rw [hg] at e
  have h := rank_word (sg x) g r hgt hr
  rw [e] at h
  congr 1
  by_cases h1 : r = g
  · rw [show (r == g) = true from beq_iff_eq.2 h1, h.2 h1.symm]
    rw [show rank (Ieee.double.word (sg x) r) - rank (Ieee.double.word (sg x) r) = 0 by omega]; rfl
  · rw [show (r == g) = false from beq_eq_false_iff_ne.2 h1]
    have h2 : rank x ≠ rank (Ieee.double.word (sg x) r) := fun e => h1 (h.1 e).symm
    rcases sgn_cases (rank x - rank (Ieee.double.word (sg x) r)) with ⟨h3, e⟩ | ⟨h3, e⟩ | ⟨h3, e⟩
    · rw [e]; rfl
    · exact absurd (by omega) h2
    · rw [e]; rfl
theorem write_j4 (k x g j n near : Nat) (hx : x < 18446744073709551616) (hg : rung x = g) (hgt : g < top) (hj : j ≤ 6) (hn : n ≤ 1000000000000002) (hk : 100 < k) :
    ratio_Write.j4 (k + 1) x ⟨(signL x).toArray⟩ g (j : Int) (near : Int) (n : Int) ⟨(textN (signL x) n j).toArray⟩ = if goodN g j n then some (⟨(textN (signL x) n j).toArray⟩, true) else ratio_Write.l1 k x ⟨(signL x).toArray⟩ g (j : Int) (near : Int) ((n + 1 : Nat) : Int) := by
  have ht := top_lt
  simp only [ratio_Write.j4]
  have hw : wrap64 ((n : Int) + 1) = ((n + 1 : Nat) : Int) := by unfold wrap64; omega
  have hlen : (textN (signL x) n j).length ≤ 40 := by
    unfold textN
    have h1 := dec_len_le 16 (n / 10 ^ j) (Nat.lt_of_le_of_lt (Nat.div_le_self _ _) (by rw [show (10 : Nat) ^ 16 = 10000000000000000 by decide]; omega)) (by omega)
    have h2 : (signL x).length ≤ 1 := by unfold signL; split <;> simp
    have h3 : (if j = 0 then [] else 46 :: fillL (n % 10 ^ j) j : List UInt8).length ≤ 7 := by
      split
      · simp
      · rw [List.length_cons, fill_len _ _ (Nat.mod_lt _ (Nat.pow_pos (by omega))) (by omega)]; omega
    rw [List.length_append, List.length_append]
    omega
  rw [hw, parse_f _ (by omega) k (by omega), sign_if, parse_text (sg x) n j hj]
  simp only [Option.bind_some]
  unfold goodN
  by_cases h : n / 10 ^ j ≤ 999999999
  · rw [if_pos h, decide_eq_true h]
    simp only [if_true, Bool.true_and]
    obtain ⟨_, q2⟩ := quoV_ok n j (by omega) hj
    rw [same_word x g _ hx hg hgt q2]
    simp only [Option.bind_some]
  · rw [if_neg h, decide_eq_false h]
    simp only [Bool.false_and, Bool.false_eq_true, if_false]
theorem write_l1 (x g j near : Nat) (hx : x < 18446744073709551616) (hg : rung x = g) (hgt : g < top) (hj : j ≤ 6) (hn : near ≤ 1000000000000000) : ∀ (c n k : Nat), n + c = near + 2 → 110 + 2 * c + 1 ≤ k →
    ratio_Write.l1 k x ⟨(signL x).toArray⟩ g (j : Int) (near : Int) (n : Int) = match tryN g j n c with
      | some m => some (⟨(textN (signL x) m j).toArray⟩, true)
      | none => ratio_Write.l0 (k - (2 * c + 1)) x ⟨(signL x).toArray⟩ g ((j + 1 : Nat) : Int) := by
  intro c
  induction c with
  | zero =>
    intro n k h1 hk
    obtain ⟨k, rfl⟩ : ∃ m, k = m + 1 := ⟨k - 1, by omega⟩
    simp only [ratio_Write.l1]
    rw [if_neg (by unfold wrap64; omega)]
    have e : wrap64 ((j : Int) + 1) = ((j + 1 : Nat) : Int) := by unfold wrap64; omega
    rw [e]
    simp only [tryN]
    rfl
  | succ c ih =>
    intro n k h1 hk
    obtain ⟨k, rfl⟩ : ∃ m, k = m + 2 := ⟨k - 2, by omega⟩
    have hp := pow_le6 j hj
    have hp0 : 0 < 10 ^ j := Nat.pow_pos (by omega)
    have hs : (signL x).length ≤ 1 := by unfold signL; split <;> simp
    have hdl := dec_len_le 16 (n / 10 ^ j) (Nat.lt_of_le_of_lt (Nat.div_le_self _ _) (by rw [show (10 : Nat) ^ 16 = 10000000000000000 by decide]; omega)) (by omega)
    have hdn : n / 10 ^ j ≤ n := Nat.div_le_self _ _
    have hmn : n % 10 ^ j ≤ n := Nat.mod_le _ _
    rw [show k + 2 = (k + 1) + 1 from rfl]
    simp only [ratio_Write.l1]
    rw [if_pos (by unfold wrap64; omega), ten_f j (k + 1) (by omega) (by omega)]
    simp only [Option.bind_some]
    rw [if_neg (by omega)]
    have e1 : wrap64 (Int.tdiv (n : Int) ((10 ^ j : Nat) : Int)) = ((n / 10 ^ j : Nat) : Int) := by
      rw [Int.tdiv_eq_ediv_of_nonneg (by omega)]
      rw [show (n : Int) / ((10 ^ j : Nat) : Int) = ((n / 10 ^ j : Nat) : Int) from rfl]
      generalize n / 10 ^ j = q at hdn ⊢
      unfold wrap64; omega
    have hq : ((n / 10 ^ j : Nat) : Int) ≤ 4611686018427387904 := by
      generalize n / 10 ^ j = q at hdn ⊢
      omega
    have hq0 : (0 : Int) ≤ ((n / 10 ^ j : Nat) : Int) := Int.natCast_nonneg _
    have e2 : Int.tmod (n : Int) ((10 ^ j : Nat) : Int) = ((n % 10 ^ j : Nat) : Int) := by
      rw [Int.tmod_eq_emod_of_nonneg (by omega)]
      rfl
    rw [e1, e2, digits_f _ _ (by omega), hold_in _ hq0 hq, Int.toNat_natCast]
    simp only [Option.bind_some]
    rw [bsize, bsize, if_pos (by omega)]
    have hj4 := write_j4 k x g j n near hx hg hgt hj (by omega) (by omega)
    have done : ratio_Write.j4 (k + 1) x ⟨(signL x).toArray⟩ g (j : Int) (near : Int) (n : Int) ⟨(textN (signL x) n j).toArray⟩ = match tryN g j n (c + 1) with
      | some m => some (⟨(textN (signL x) m j).toArray⟩, true)
      | none => ratio_Write.l0 (k + 1 + 1 - (2 * (c + 1) + 1)) x ⟨(signL x).toArray⟩ g ((j + 1 : Nat) : Int) := by
      rw [hj4]
      simp only [tryN]
      by_cases hgood : goodN g j n = true
      · rw [if_pos hgood, if_pos hgood]
      · rw [if_neg hgood, if_neg hgood, ih (n + 1) k (by omega) (by omega)]
        rw [show k + 1 + 1 - (2 * (c + 1) + 1) = k - (2 * c + 1) by omega]
    by_cases h0 : j = 0
    · subst h0
      rw [if_neg (by omega), bapp]
      have e3 : signL x ++ Dec.dec (n / 10 ^ 0) = textN (signL x) n 0 := by unfold textN; rw [if_pos rfl, List.append_nil]
      rw [e3]
      exact done
    · rw [if_pos (by omega), fill_f _ j (by omega) (by omega) _ (by omega)]
      have hfl := fill_len (n % 10 ^ j) j (Nat.mod_lt _ hp0) (by omega)
      simp only [Option.bind_some]
      rw [if_neg (by omega), bsize, if_pos (by omega), if_pos (by omega)]
      have e3 : ((⟨(signL x).toArray⟩ : ByteArray) ++ ⟨(Dec.dec (n / 10 ^ j)).toArray⟩) ++ ((⟨#[46]⟩ : ByteArray) ++ ⟨(fillL (n % 10 ^ j) j).toArray⟩) = ⟨(textN (signL x) n j).toArray⟩ := by
        rw [show (⟨#[46]⟩ : ByteArray) = ⟨[(46 : UInt8)].toArray⟩ from rfl, bapp, bapp, bapp]
        unfold textN
        rw [if_neg h0]; rfl
      rw [e3]
      exact done
theorem write_l0 (x g : Nat) (hx : x < 18446744073709551616) (hg : rung x = g) (hgl : g < 4741671816366391296) : ∀ (c j k : Nat), j + c = 7 → 130 + 10 * c ≤ k →
    ratio_Write.l0 k x ⟨(signL x).toArray⟩ g (j : Int) = some (⟨(tryJ (signL x) g j c).1.toArray⟩, (tryJ (signL x) g j c).2) := by
  intro c
  induction c with
  | zero =>
    intro j k h1 hk
    obtain ⟨k, rfl⟩ : ∃ m, k = m + 1 := ⟨k - 1, by omega⟩
    simp only [ratio_Write.l0]
    rw [if_neg (by omega)]; rfl
  | succ c ih =>
    intro j k h1 hk
    obtain ⟨k, rfl⟩ : ∃ m, k = m + 1 := ⟨k - 1, by omega⟩
    have ht : top = 9218868437227405312 := rfl
    obtain ⟨a1, a2, a3, a4, _⟩ := near_ok g j hgl (by omega)
    simp only [ratio_Write.l0]
    rw [if_pos (by omega), ten_f j k (by omega) (by omega)]
    simp only [Option.bind_some]
    rw [if_pos a1, if_pos a2, a3]
    have e : mx (wrap64 ((nearN g j : Int) - 1)) 0 = ((nearN g j - 1 : Nat) : Int) := by unfold mx wrap64; omega
    rw [e, write_l1 x g j (nearN g j) hx hg (by omega) (by omega) a4 (nearN g j + 2 - (nearN g j - 1)) (nearN g j - 1) k (by omega) (by omega)]
    simp only [tryJ]
    cases hm : tryN g j (nearN g j - 1) (nearN g j + 2 - (nearN g j - 1)) with
    | some m => rfl
    | none => exact ih (j + 1) _ (by omega) (by omega)
theorem finite_text (x : Nat) (h1 : fnan x = false) (h2 : rung x ≠ top) : textL x ≠ [110, 97, 110] ∧ textL x ≠ [105, 110, 102] ∧ textL x ≠ [45, 105, 110, 102] := by
  unfold textL
  rw [h1, if_neg (by decide), if_neg h2]
  split
  · unfold signL
    cases sg x <;> simp
  · have hm : (46 : UInt8) ∈ signL x ++ Dec.dec (wholeN (rung x)) ++ [46] ++ fillL (min (partN (rung x)) 999) 3 := by simp
    refine ⟨?_, ?_, ?_⟩ <;> intro e <;> rw [e] at hm <;> revert hm <;> decide
theorem write_f (x : Nat) (hx : x < 18446744073709551616) (k : Nat) (hk : 300 ≤ k) : ratio_Write.f k x = some (⟨(writeV x).1.toArray⟩, (writeV x).2) := by
  have ht : top = 9218868437227405312 := rfl
  obtain ⟨k, rfl⟩ : ∃ m, k = m + 2 := ⟨k - 2, by omega⟩
  unfold ratio_Write.f
  rw [text_f x hx _ (by omega)]
  simp only [Option.bind_some]
  have yes : ∀ t, ratio_Write.j0 (k + 2) x t true = some (t, true) := by
    intro t
    rw [show k + 2 = (k + 1) + 1 from rfl]
    simp only [ratio_Write.j0, if_true]
  cases h1 : fnan x with
  | true =>
    have e : textL x = [110, 97, 110] := by unfold textL; rw [h1]; rfl
    rw [if_pos (eq_arr e), yes, e]
    unfold writeV
    rw [h1]; rfl
  | false =>
    by_cases h2 : rung x = top
    · have e : textL x = signL x ++ [105, 110, 102] := by unfold textL; rw [h1, if_neg (by decide), if_pos h2]
      have ew : writeV x = (signL x ++ [105, 110, 102], true) := by unfold writeV; rw [h1, if_neg (by decide), if_pos h2]
      rw [e, ew]
      cases hs : sg x with
      | true =>
        have e2 : signL x = [45] := by unfold signL; rw [hs]; rfl
        rw [e2, if_neg (ne_arr (by decide)), if_neg (ne_arr (by decide))]
        rw [show ((⟨([45] ++ [105, 110, 102] : List UInt8).toArray⟩ : ByteArray).toList == [45, 105, 110, 102]) = true from by rw [beq_iff_eq]; exact eq_arr rfl, yes]
      | false =>
        have e2 : signL x = [] := by unfold signL; rw [hs]; rfl
        rw [e2, if_neg (ne_arr (by decide)), if_pos (show (⟨([] ++ [105, 110, 102] : List UInt8).toArray⟩ : ByteArray).toList = [105, 110, 102] from eq_arr rfl), yes]
    · obtain ⟨n1, n2, n3⟩ := finite_text x h1 h2
      have hr := not_nan x h1
      rw [if_neg (ne_arr n1), if_neg (ne_arr n2), show ((⟨(textL x).toArray⟩ : ByteArray).toList == [45, 105, 110, 102]) = false from beq_eq_false_iff_ne.2 (ne_arr n3)]
      rw [show k + 2 = (k + 1) + 1 from rfl]
      simp only [ratio_Write.j0, Bool.false_eq_true, if_false]
      rw [signbit_f x hx]
      simp only [Option.bind_some]
      have tail : ratio_Write.j1 (k + 1) x ⟨(signL x).toArray⟩ = some (⟨(writeV x).1.toArray⟩, (writeV x).2) := by
        simp only [ratio_Write.j1]
        rw [abs_f x hx, show (9 : Int) = ((9 : Nat) : Int) from rfl, ten_f 9 k (by omega) (by omega)]
        simp only [Option.bind_some]
        rw [bits9, pos_ge (rung x) _ hr (by decide)]
        have ew : writeV x = if 4741671816366391296 ≤ rung x then ([], false) else tryJ (signL x) (rung x) 0 7 := by
          unfold writeV
          rw [h1, if_neg (by decide), if_neg h2]
        rw [ew]
        by_cases h3 : 4741671816366391296 ≤ rung x
        · rw [if_pos (decide_eq_true h3), if_pos h3]
        · rw [if_neg (by rw [decide_eq_true_eq]; exact h3), if_neg h3]
          exact write_l0 x (rung x) hx rfl (by omega) 7 0 k (by omega) (by omega)
      have e2 : signL x = if sg x then [45] else [] := rfl
      rw [e2] at tail
      cases hs : sg x with
      | true => rw [hs] at tail; rw [if_pos rfl]; exact tail
      | false => rw [hs] at tail; rw [if_neg (by decide)]; exact tail
def sec (u : Int) : Int := if u = 1 then 1 else if u = 2 then 60 else if u = 3 then 3600 else if u = 4 then 86400 else 0
theorem u_cases (u : Int) : u < 1 ∨ u > 4 ∨ u = 1 ∨ u = 2 ∨ u = 3 ∨ u = 4 := by omega
theorem secs_f (u : Int) : unit_Secs.f u = some (sec u) := by
  rcases u_cases u with h | h | rfl | rfl | rfl | rfl
  · unfold unit_Secs.f sec
    rw [if_pos h, if_neg (by omega), if_neg (by omega), if_neg (by omega), if_neg (by omega)]
  · unfold unit_Secs.f sec
    rw [if_neg (by omega), if_pos h, if_neg (by omega), if_neg (by omega), if_neg (by omega), if_neg (by omega)]
  all_goals decide +kernel
theorem step1 {i n : Nat} (h : i < n) (hn : n ≤ 9223372036854775807) : wrap64 ((i : Int) + 1) = ((i + 1 : Nat) : Int) := by unfold wrap64; omega
theorem name_both (s : ByteArray) (hn : s.size ≤ 9223372036854775807) (d : Nat) : ∀ i : Nat, i + d = s.size →
    ∃ b : Bool, ∀ k, d < k → turncockref1_Name.l0 k s (i : Int) = some b ∧ desc_Name.l0 k s (s.size : Int) (i : Int) = some (b && (decide (1 ≤ s.size) && decide (s.size ≤ 64))) := by
  induction d with
  | zero =>
    intro i hi
    refine ⟨true, fun k hk => ?_⟩
    obtain ⟨k, rfl⟩ : ∃ m, k = m + 1 := ⟨k - 1, by omega⟩
    simp only [turncockref1_Name.l0, desc_Name.l0]
    rw [if_neg (by omega), if_neg (by omega)]
    refine ⟨rfl, ?_⟩
    by_cases h : (s.size : Int) ≥ 1
    · rw [if_pos h, decide_eq_true (show 1 ≤ s.size by omega), Bool.true_and, Bool.true_and]
      congr 1; rw [decide_eq_decide]; omega
    · rw [if_neg h, decide_eq_false (show ¬ 1 ≤ s.size by omega)]; rfl
  | succ d ih =>
    intro i hi
    by_cases h1 : bt s (i : Int) < 33
    · refine ⟨false, fun k hk => ?_⟩
      obtain ⟨k, rfl⟩ : ∃ m, k = m + 1 := ⟨k - 1, by omega⟩
      simp only [turncockref1_Name.l0, desc_Name.l0]
      rw [if_pos (by omega), if_pos (by omega), if_pos h1, if_pos (by omega), if_pos (by omega), if_pos (by omega), if_pos h1]
      exact ⟨rfl, rfl⟩
    · by_cases h2 : bt s (i : Int) > 126
      · refine ⟨false, fun k hk => ?_⟩
        obtain ⟨k, rfl⟩ : ∃ m, k = m + 1 := ⟨k - 1, by omega⟩
        simp only [turncockref1_Name.l0, desc_Name.l0]
        rw [if_pos (by omega), if_pos (by omega), if_neg h1, if_pos h2, if_pos (by omega), if_pos (by omega), if_pos (by omega), if_neg h1, if_pos h2]
        exact ⟨rfl, rfl⟩
      · obtain ⟨b, hb⟩ := ih (i + 1) (by omega)
        refine ⟨b, fun k hk => ?_⟩
        obtain ⟨k, rfl⟩ : ∃ m, k = m + 1 := ⟨k - 1, by omega⟩
        simp only [turncockref1_Name.l0, desc_Name.l0]
        rw [if_pos (by omega), if_pos (by omega), if_neg h1, if_neg h2, if_pos (by omega), if_pos (by omega), if_pos (by omega), if_neg h1, if_neg h2, step1 (show i < s.size by omega) hn]
        exact hb k (by omega)
theorem name_same (s : ByteArray) (hn : s.size ≤ 9223372036854775807) : ∃ b : Bool, (b = true → s.size ≤ 64) ∧ ∀ k, s.size + 1 < k → turncockref1_Name.f k s = some b ∧ desc_Name.f k s = some b := by
  obtain ⟨b, hb⟩ := name_both s hn s.size 0 (by omega)
  refine ⟨b && (decide (1 ≤ s.size) && decide (s.size ≤ 64)), fun h => by simp at h; omega, fun k hk => ⟨?_, (hb k (by omega)).2⟩⟩
  obtain ⟨k, rfl⟩ : ∃ m, k = m + 1 := ⟨k - 1, by omega⟩
  unfold turncockref1_Name.f
  by_cases h1 : (s.size : Int) < 1
  · rw [if_pos h1]
    simp only [turncockref1_Name.j0]
    rw [decide_eq_false (show ¬ 1 ≤ s.size by omega)]
    simp
  · rw [if_neg h1]
    by_cases h2 : (s.size : Int) > 64
    · rw [decide_eq_true h2]
      simp only [turncockref1_Name.j0]
      rw [decide_eq_false (show ¬ s.size ≤ 64 by omega)]
      simp
    · rw [decide_eq_false h2]
      simp only [turncockref1_Name.j0]
      rw [decide_eq_true (show 1 ≤ s.size by omega), decide_eq_true (show s.size ≤ 64 by omega), if_neg (by decide)]
      have := (hb k (by omega)).1
      simp only [Bool.and_true]
      exact this
def nameB (s : ByteArray) : Bool := desc_Name.f (s.size + 2) s == some true
theorem name_f (s : ByteArray) (hn : s.size ≤ 9223372036854775807) (k : Nat) (hk : s.size + 1 < k) : desc_Name.f k s = some (nameB s) := by
  obtain ⟨b, _, hb⟩ := name_same s hn
  unfold nameB
  rw [(hb k hk).2, (hb (s.size + 2) (by omega)).2]
  cases b <;> rfl
def nameOk (s : ByteArray) : Bool := decide (s.toList = []) || nameB s
def checkV (s : ByteArray) (u l : Int) (x : Nat) (un : Bool) : Bool :=
  nameOk s && (if un then (decide (u = 0) && decide (l = 0) && decide (rank x = 0)) else (decide (0 < sec u) && decide (0 ≤ l) && decide (l ≤ 4294967295) && ((writeV x).2 && decide (0 ≤ rank x) && decide (rank x ≤ 4607182418800017408))))
theorem rank_0 : rank 0 = 0 := by decide
theorem rank_1 : rank 4607182418800017408 = 4607182418800017408 := by decide
theorem sgn_ge (a : Int) : (sgn a ≥ 0 ↔ 0 ≤ a) ∧ (sgn a ≤ 0 ↔ a ≤ 0) ∧ (sgn a < 0 ↔ a < 0) ∧ (sgn a > 0 ↔ 0 < a) := by
  rcases sgn_cases a with ⟨h, e⟩ | ⟨h, e⟩ | ⟨h, e⟩ <;> rw [e] <;> omega
theorem sgn_z (a : Int) : (sgn a == 0) = decide (a = 0) := by
  rcases sgn_cases a with ⟨h, e⟩ | ⟨h, e⟩ | ⟨h, e⟩ <;> rw [e]
  · rw [decide_eq_false (by omega)]; rfl
  · rw [decide_eq_true h]; rfl
  · rw [decide_eq_false (by omega)]; rfl
theorem rnear_f (x : Nat) (hx : x < 18446744073709551616) (k : Nat) (hk : 300 ≤ k) : rule_near.f k x = some ((writeV x).2 && decide (0 ≤ rank x) && decide (rank x ≤ 4607182418800017408)) := by
  unfold rule_near.f
  rw [write_f x hx k hk]
  simp only [Option.bind_some]
  cases hw : (writeV x).2 with
  | false => rw [if_neg (by decide)]; rfl
  | true =>
    rw [if_pos rfl, order_f x 0 hx (by omega), order_f x _ hx (by omega), rank_0, rank_1]
    simp only [Option.bind_some]
    have h1 := (sgn_ge (rank x - 0)).1
    have h2 := (sgn_ge (rank x - 4607182418800017408)).2.1
    by_cases h0 : 0 ≤ rank x
    · rw [if_pos (h1.2 (by omega)), decide_eq_true h0]
      congr 1
      rw [Bool.true_and, Bool.true_and, decide_eq_decide, h2]
      omega
    · rw [if_neg (fun h => h0 (by have := h1.1 h; omega)), decide_eq_false h0]; rfl
theorem check_f (s : ByteArray) (u l : Int) (x : Nat) (sh un : Bool) (hs : s.size ≤ 9223372036854775807) (hx : x < 18446744073709551616) (k : Nat) (hk : s.size + 310 ≤ k) : rule_Check.f k s u l x sh un = some (if checkV s u l x un then 0 else 1) := by
  obtain ⟨k, rfl⟩ : ∃ m, k = m + 1 := ⟨k - 1, by omega⟩
  have nm : (if s.toList = ([] : List UInt8) then (some (0 : Int)) else ((desc_Name.f k s).bind fun t => (if t = true then (some 0) else (some 1)))) = some (if nameOk s then 0 else 1) := by
    unfold nameOk
    by_cases h : s.toList = []
    · rw [if_pos h, decide_eq_true h]; rfl
    · rw [if_neg h, decide_eq_false h, name_f s hs k (by omega)]
      simp only [Option.bind_some, Bool.false_or]
      cases nameB s <;> rfl
  have tail : ∀ b : Bool, rule_Check.j0 (k + 1) b s u l x sh un = some (if (nameOk s && (if un then (decide (u = 0) && decide (l = 0) && decide (rank x = 0)) else b)) then 0 else 1) := by
    intro b
    simp only [rule_Check.j0]
    cases un with
    | true =>
      rw [if_pos rfl, if_pos rfl]
      by_cases h1 : u = 0
      · rw [if_pos h1, decide_eq_true h1]
        by_cases h2 : l = 0
        · rw [if_pos h2, decide_eq_true h2, same_f x 0 hx (by omega), rank_0]
          simp only [Option.bind_some]
          rw [sgn_z, Int.sub_zero]
          by_cases h3 : rank x = 0
          · rw [if_pos (decide_eq_true h3), decide_eq_true h3, nm]; simp
          · rw [if_neg (by rw [decide_eq_true_eq]; exact h3), decide_eq_false h3]; simp
        · rw [if_neg h2, decide_eq_false h2]; simp
      · rw [if_neg h1, decide_eq_false h1]; simp
    | false =>
      cases b with
      | true =>
        simp only [Bool.false_eq_true, if_false, if_true, Bool.and_true]
        exact nm
      | false => simp
  unfold rule_Check.f checkV
  rw [secs_f]
  simp only [Option.bind_some]
  by_cases h1 : sec u > 0
  · rw [if_pos h1, decide_eq_true (show 0 < sec u from h1)]
    by_cases h2 : l ≥ 0
    · rw [if_pos h2, decide_eq_true (show 0 ≤ l from h2)]
      by_cases h3 : l ≤ 4294967295
      · rw [if_pos h3, decide_eq_true h3, rnear_f x hx _ (by omega)]
        simp only [Option.bind_some]
        rw [tail]
        simp
      · rw [if_neg h3, decide_eq_false h3, tail]; simp
    · rw [if_neg h2, decide_eq_false (show ¬ 0 ≤ l from h2), tail]; simp
  · rw [if_neg h1, decide_eq_false (show ¬ 0 < sec u from h1), tail]; simp
def sameV (s t : ByteArray) (u v l m : Int) (x y : Nat) (sh sh' un un' : Bool) : Bool := decide (rank x = rank y) && (decide (s.toList = t.toList) && (decide (u = v) && (decide (l = m) && ((sh == sh') && (un == un')))))
theorem rsame_f (s t : ByteArray) (u v l m : Int) (x y : Nat) (sh sh' un un' : Bool) (hx : x < 18446744073709551616) (hy : y < 18446744073709551616) : rule_Same.f s u l x sh un t v m y sh' un' = some (sameV s t u v l m x y sh sh' un un') := by
  unfold rule_Same.f sameV
  rw [same_f x y hx hy]
  simp only [Option.bind_some]
  have e : (sgn (rank x - rank y) == 0) = decide (rank x = rank y) := by
    rw [show (sgn (rank x - rank y) == 0) = decide (rank x - rank y = 0) from by
      rcases sgn_cases (rank x - rank y) with ⟨h, e⟩ | ⟨h, e⟩ | ⟨h, e⟩ <;> rw [e]
      · rw [decide_eq_false (by omega)]; rfl
      · rw [decide_eq_true h]; rfl
      · rw [decide_eq_false (by omega)]; rfl]
    rw [decide_eq_decide]; omega
  rw [e]
  by_cases h0 : rank x = rank y
  · rw [if_pos (decide_eq_true h0), decide_eq_true h0]
    rw [show feq 0 0 = true from by decide +kernel]
    congr 1
    have a1 : (s.toList == t.toList) = decide (s.toList = t.toList) := by
      by_cases h : s.toList = t.toList
      · rw [decide_eq_true h]; exact beq_iff_eq.2 h
      · rw [decide_eq_false h]; exact beq_eq_false_iff_ne.2 h
    have a2 : (u == v) = decide (u = v) := by
      by_cases h : u = v
      · rw [decide_eq_true h]; exact beq_iff_eq.2 h
      · rw [decide_eq_false h]; exact beq_eq_false_iff_ne.2 h
    have a3 : (l == m) = decide (l = m) := by
      by_cases h : l = m
      · rw [decide_eq_true h]; exact beq_iff_eq.2 h
      · rw [decide_eq_false h]; exact beq_eq_false_iff_ne.2 h
    rw [a1, a2, a3, Bool.true_and, Bool.true_and]
  · rw [if_neg (by rw [decide_eq_true_eq]; exact h0), decide_eq_false h0]; rfl
theorem sameV_refl (s : ByteArray) (u l : Int) (x : Nat) (sh un : Bool) : sameV s s u u l l x x sh sh un un = true := by unfold sameV; simp
end Go.Proofs.Ytipbigdpannlcaa.Pure
