/- NumBack: the digits of any number are read as it, held, for every number; no condition. -/
import Derived.Test.YtjiaombbjmhmoaaPNumBackx2
import Derived.Test.YtjiaombbjmhmoaaDec
set_option linter.unusedSimpArgs false
set_option linter.unusedVariables false
namespace Go.Proofs.Ytjiaombbjmhmoaa.Pure
open Go.RowKit Go.Proofs.Ytjiaombbjmhmoaa.PNumBack Go.Proofs.YtjiaombbjmhmoaaW.PrintWords Go.Proofs.YtjiaombbjmhmoaaW.PrintLast Go.Proofs.YtjiaombbjmhmoaaW.PrintMore
open Go.Proofs.Ytjiaombbjmhmoaa

def hold (a : Int) : Int := if a < 0 then 0 else if a > 4611686018427387904 then 4611686018427387904 else a
theorem hold_rng (a : Int) : 0 ≤ hold a ∧ hold a ≤ 4611686018427387904 := by
  unfold hold
  repeat' split
  all_goals omega
theorem hold_in (a : Int) (h0 : 0 ≤ a) (h1 : a ≤ 4611686018427387904) : hold a = a := by
  unfold hold
  rw [if_neg (by omega), if_neg (by omega)]
theorem numhold_f (a : Int) : num_Hold.f a = some (hold a) := by
  unfold num_Hold.f hold mx mn
  congr 1
  repeat' split
  all_goals omega
def addH (a b : Int) : Int := if hold a + hold b > 4611686018427387904 then 4611686018427387904 else hold a + hold b
theorem add_f (a b : Int) : num_Add.f a b = some (addH a b) := by
  have ha := hold_rng a
  have hb := hold_rng b
  unfold num_Add.f addH
  rw [numhold_f, numhold_f]
  simp only [Option.bind_some]
  rw [show wrap64 (4611686018427387904 - hold b) = 4611686018427387904 - hold b from by unfold wrap64; omega]
  by_cases h : hold a + hold b > 4611686018427387904
  · rw [if_pos h, if_pos (by omega)]
  · rw [if_neg h, if_neg (by omega), show wrap64 (hold a + hold b) = hold a + hold b from by unfold wrap64; omega]
def mulH (a b : Int) : Int := if hold a * hold b > 4611686018427387904 then 4611686018427387904 else hold a * hold b
theorem mul_f (a b : Int) : num_Mul.f a b = some (mulH a b) := by
  have ha := hold_rng a
  have hb := hold_rng b
  have h0 : 0 ≤ hold a * hold b := Int.mul_nonneg ha.1 hb.1
  unfold num_Mul.f mulH
  rw [numhold_f, numhold_f]
  simp only [Option.bind_some]
  by_cases h1 : hold b > 0
  · have key : hold a ≤ 4611686018427387904 / hold b ↔ hold a * hold b ≤ 4611686018427387904 := Int.le_ediv_iff_mul_le h1
    rw [if_pos h1]
    by_cases h : hold a * hold b > 4611686018427387904
    · rw [if_pos h, if_pos (by omega)]
    · rw [if_neg h, if_neg (by omega), show wrap64 (hold a * hold b) = hold a * hold b from by unfold wrap64; omega]
  · have e : hold b = 0 := by omega
    rw [if_neg h1, e, Int.mul_zero]; simp [wrap64]
theorem awake_ev : ∃ K, ∀ k, K ≤ k → turncocklaw1_awake.f k = some true := Ev.of turncocklaw1_awake.mono (k := 30) (by decide +kernel)
def toB (z : Int) : UInt8 := UInt8.ofNat z.toNat
theorem toB_nat (n : Nat) : toB (n : Int) = UInt8.ofNat n := by unfold toB; rw [Int.toNat_natCast]
theorem digit_term (n : Nat) : (wrap64 (48 + Int.tmod (n : Int) 10)) % 256 = ((48 + n % 10 : Nat) : Int) := by
  rw [Int.tmod_eq_emod_of_nonneg (by omega)]
  unfold wrap64
  omega
theorem quo_term (n : Nat) (h : n ≤ 4611686018427387904) : wrap64 (Int.tdiv (n : Int) 10) = ((n / 10 : Nat) : Int) := by
  rw [Int.tdiv_eq_ediv_of_nonneg (by omega)]
  unfold wrap64
  omega
theorem dig_l0 (d : Nat) : ∀ (k n : Nat) (acc : List Int), n ≤ 4611686018427387904 → n < 10 ^ d → d < k → acc.length + d ≤ 1000 →
    num_Digits.l0 k (n : Int) acc = some ⟨(Dec.pre n ++ acc.map toB).toArray⟩ := by
  induction d with
  | zero =>
    intro k n acc hm hn hk ha
    obtain ⟨k, rfl⟩ : ∃ m, k = m + 1 := ⟨k - 1, by omega⟩
    obtain rfl : n = 0 := by omega
    simp only [num_Digits.l0]
    rw [if_neg (by omega)]; rfl
  | succ d ih =>
    intro k n acc hm hn hk ha
    obtain ⟨k, rfl⟩ : ∃ m, k = m + 1 := ⟨k - 1, by omega⟩
    by_cases h : n = 0
    · subst h
      simp only [num_Digits.l0]
      rw [if_neg (by omega)]; rfl
    · simp only [num_Digits.l0]
      rw [if_pos (by omega), digit_term, quo_term n hm]
      simp only [Option.bind_some]
      rw [if_pos (by simp; omega), ih k (n / 10) _ (by omega) (by rw [Nat.pow_succ] at hn; omega) (by omega) (by simp; omega), Dec.pre_step n h]
      simp only [List.map_append, List.map_cons, List.map_nil, toB_nat, List.append_assoc]
theorem digits_f (a : Int) (k : Nat) (hk : 20 < k) : num_Digits.f k a = some ⟨(Dec.dec (hold a).toNat).toArray⟩ := by
  have ha := hold_rng a
  unfold num_Digits.f
  rw [numhold_f]
  simp only [Option.bind_some]
  obtain ⟨n, hn⟩ : ∃ n : Nat, hold a = n := ⟨(hold a).toNat, by omega⟩
  rw [hn] at ha ⊢
  rw [digit_term, quo_term n (by omega), dig_l0 19 k (n / 10) _ (by omega) (by omega) (by omega) (by simp)]
  rw [Int.toNat_natCast, Dec.dec_pre n]
  simp only [List.map_cons, List.map_nil, toB_nat]
/-- What digits are worth upon a. -/
def valF (a : Nat) (l : List UInt8) : Nat := l.foldl (fun a c => a * 10 + (c.toNat - 48)) a
theorem valF_ge (l : List UInt8) : ∀ a, a ≤ valF a l := by
  induction l with
  | nil => intro a; exact Nat.le_refl _
  | cons c l ih => intro a; exact Nat.le_trans (by omega) (ih (a * 10 + (c.toNat - 48)))
def allD (l : List UInt8) : Prop := ∀ c ∈ l, Dec.isDig c
def MX : Nat := 4611686018427387904
theorem sat_step (a d : Nat) (hd : d ≤ 9) : addH (mulH ((min a MX : Nat) : Int) 10) (d : Int) = ((min (a * 10 + d) MX : Nat) : Int) := by
  have e1 : hold ((min a MX : Nat) : Int) = ((min a MX : Nat) : Int) := hold_in _ (by omega) (by unfold MX; omega)
  have e2 : hold (10 : Int) = 10 := rfl
  have e3 : hold (d : Int) = d := hold_in _ (by omega) (by omega)
  have e4 : mulH ((min a MX : Nat) : Int) 10 = ((min (a * 10) MX : Nat) : Int) := by
    unfold mulH; rw [e1, e2]; unfold MX; split <;> omega
  unfold addH
  rw [e4, e3, hold_in _ (by omega) (by unfold MX; omega)]
  unfold MX; split <;> omega
theorem byte_next (s : ByteArray) (pos : Nat) (h : pos < s.size) :
    (((Utf8.decode s pos) = ((s[pos]'h).toNat, 1)) ∨ 128 ≤ (Utf8.decode s pos).1) ∧ ((s[pos]'h).toNat < 128 → (Utf8.decode s pos) = ((s[pos]'h).toNat, 1)) ∧ (128 ≤ (s[pos]'h).toNat → 128 ≤ (Utf8.decode s pos).1) := by
  by_cases ha : (s[pos]'h).toNat < 128
  · have := decode_ascii s pos h ha
    exact ⟨.inl this, fun _ => this, fun h => by omega⟩
  · have := (decode_high s pos h (by omega)).1
    exact ⟨.inr this, fun h => by omega, fun _ => this⟩
theorem parse_l0 (s : ByteArray) (d : Nat) : ∀ (k pos a : Nat), pos + d = s.size → d + 21 < k →
    (allD (s.data.toList.drop pos) → num_Parse.l0 k s pos ((min a MX : Nat) : Int) = if ¬ Dec.dec (min (valF a (s.data.toList.drop pos)) MX) = s.data.toList then some (0, false) else some (((min (valF a (s.data.toList.drop pos)) MX : Nat) : Int), true)) ∧
    (¬ allD (s.data.toList.drop pos) → num_Parse.l0 k s pos ((min a MX : Nat) : Int) = some (0, false)) := by
  have hl : s.data.toList.length = s.size := by simp
  induction d with
  | zero =>
    intro k pos a hp hk
    obtain ⟨k, rfl⟩ : ∃ m, k = m + 1 := ⟨k - 1, by omega⟩
    have e : s.data.toList.drop pos = [] := List.drop_eq_nil_of_le (by omega)
    rw [e]
    refine ⟨fun _ => ?_, fun h => absurd (fun c hc => by simp at hc) h⟩
    simp only [num_Parse.l0]
    rw [if_neg (by omega), digits_f _ _ (by omega)]
    simp only [Option.bind_some]
    rw [hold_in _ (by omega) (by unfold MX; omega), Int.toNat_natCast, ByteArray.toList_eq, ByteArray.toList_eq]
    rfl
  | succ d ih =>
    intro k pos a hp hk
    obtain ⟨k, rfl⟩ : ∃ m, k = m + 1 := ⟨k - 1, by omega⟩
    have hlt : pos < s.size := by omega
    have e : s.data.toList.drop pos = s[pos]'hlt :: s.data.toList.drop (pos + 1) := by
      rw [List.drop_eq_getElem_cons (by omega)]; rfl
    obtain ⟨b0, b1, b2⟩ := byte_next s pos hlt
    rw [e]
    have hcons : allD (s[pos]'hlt :: s.data.toList.drop (pos + 1)) ↔ Dec.isDig (s[pos]'hlt) ∧ allD (s.data.toList.drop (pos + 1)) := by
      unfold allD; simp
    rw [hcons]
    generalize hb : s[pos]'hlt = b at *
    have hv : valF a (b :: s.data.toList.drop (pos + 1)) = valF (a * 10 + (b.toNat - 48)) (s.data.toList.drop (pos + 1)) := rfl
    rw [hv]
    have hblt := b.toNat_lt
    simp only [num_Parse.l0]
    rw [if_pos hlt]
    by_cases hd : Dec.isDig b
    · have hd' := hd
      unfold Dec.isDig at hd'
      have hdec := b1 (by omega)
      rw [hdec]
      simp only []
      rw [if_neg (by omega), if_neg (by omega), mul_f]
      simp only [Option.bind_some]
      rw [add_f]
      simp only [Option.bind_some]
      rw [show ((b.toNat : Int) - 48) = ((b.toNat - 48 : Nat) : Int) from by omega, sat_step a (b.toNat - 48) (by omega)]
      obtain ⟨h1, h2⟩ := ih k (pos + 1) (a * 10 + (b.toNat - 48)) (by omega) (by omega)
      exact ⟨fun h => h1 h.2, fun h => h2 (fun h' => h ⟨hd, h'⟩)⟩
    · refine ⟨fun h => absurd h.1 hd, fun _ => ?_⟩
      have hc : (Utf8.decode s pos).1 < 48 ∨ 57 < (Utf8.decode s pos).1 := by
        by_cases ha : b.toNat < 128
        · have h2 : (Utf8.decode s pos).1 = b.toNat := by rw [b1 ha]
          rw [h2]
          unfold Dec.isDig at hd
          omega
        · have := b2 (by omega); omega
      rcases hc with hc | hc
      · rw [if_pos (by omega)]
      · rw [if_neg (by omega), if_pos (by omega)]
/-- What a text is as a number. -/
def good (l : List UInt8) : Prop := allD l ∧ l ≠ [] ∧ (l.length = 1 ∨ l.head? ≠ some 48) ∧ Dec.val l ≤ MX
theorem dec_good {l : List UInt8} {n : Nat} (h : Dec.dec n = l) (hn : n ≤ MX) : good l ∧ Dec.val l = n := by
  have hv : Dec.val l = n := by rw [← h, Dec.val_dec]
  refine ⟨⟨by rw [← h]; exact Dec.dec_digs n, by rw [← h]; exact Dec.dec_ne n, ?_, by omega⟩, hv⟩
  by_cases h0 : n = 0
  · subst h0; rw [← h, Dec.dec_small 0 (by omega)]; exact .inl rfl
  · rw [← h]; exact .inr (Dec.dec_head n (by omega))
theorem parse_good (s : ByteArray) (k : Nat) (hk : s.size + 21 < k) (h : good s.data.toList) : num_Parse.f k s = some ((Dec.val s.data.toList : Int), true) := by
  have := (parse_l0 s s.size k 0 0 (by omega) hk).1 (by rw [List.drop_zero]; exact h.1)
  have e0 : num_Parse.f k s = num_Parse.l0 k s 0 ((min 0 MX : Nat) : Int) := rfl
  rw [e0, this, List.drop_zero]
  have e : min (valF 0 s.data.toList) MX = Dec.val s.data.toList := Nat.min_eq_left h.2.2.2
  rw [e, if_neg]
  rw [Dec.dec_of _ h.1 h.2.1 h.2.2.1]; simp
theorem parse_bad (s : ByteArray) (k : Nat) (hk : s.size + 21 < k) (h : ¬ good s.data.toList) : num_Parse.f k s = some (0, false) := by
  have hp := parse_l0 s s.size k 0 0 (by omega) hk
  rw [List.drop_zero] at hp
  have e0 : num_Parse.f k s = num_Parse.l0 k s 0 ((min 0 MX : Nat) : Int) := rfl
  rw [e0]
  by_cases hd : allD s.data.toList
  · rw [hp.1 hd, if_pos]
    intro e
    exact h (dec_good e (Nat.min_le_right _ _)).1
  · rw [hp.2 hd]
theorem rhold_f (a : Int) : turncockref1_Hold.f a = some (hold a) := by
  unfold turncockref1_Hold.f hold
  repeat' split
  all_goals rfl
theorem rdig_l0 (d : Nat) : ∀ (k n : Nat) (acc : List UInt8), n ≤ 4611686018427387904 → n < 10 ^ d → d < k → acc.length + d ≤ 1000 →
    turncockref1_Digits.l0 k (n : Int) ⟨acc.toArray⟩ = some ⟨(Dec.pre n ++ acc).toArray⟩ := by
  induction d with
  | zero =>
    intro k n acc hm hn hk ha
    obtain ⟨k, rfl⟩ : ∃ m, k = m + 1 := ⟨k - 1, by omega⟩
    obtain rfl : n = 0 := by omega
    simp only [turncockref1_Digits.l0]
    rw [if_neg (by omega)]; rfl
  | succ d ih =>
    intro k n acc hm hn hk ha
    obtain ⟨k, rfl⟩ : ∃ m, k = m + 1 := ⟨k - 1, by omega⟩
    by_cases h : n = 0
    · subst h
      simp only [turncockref1_Digits.l0]
      rw [if_neg (by omega)]; rfl
    · simp only [turncockref1_Digits.l0]
      rw [if_pos (by omega), digit_term, quo_term n hm]
      simp only [Option.bind_some]
      have e : strOfNums [((48 + n % 10 : Nat) : Int)] ++ (⟨acc.toArray⟩ : ByteArray) = ⟨(UInt8.ofNat (48 + n % 10) :: acc).toArray⟩ := by
        have e1 : strOfNums [((48 + n % 10 : Nat) : Int)] = ⟨[UInt8.ofNat (48 + n % 10)].toArray⟩ := by
          show (⟨[toB ((48 + n % 10 : Nat) : Int)].toArray⟩ : ByteArray) = _
          rw [toB_nat]
        rw [e1]
        generalize UInt8.ofNat (48 + n % 10) = c
        apply ByteArray.ext
        simp [ByteArray.data_append]
      have hs1 : (strOfNums [((48 + n % 10 : Nat) : Int)]).size = 1 := rfl
      have hs2 : (⟨acc.toArray⟩ : ByteArray).size = acc.length := by show acc.toArray.size = _; simp
      rw [if_pos (by rw [hs1, hs2]; omega), e, ih k (n / 10) _ (by omega) (by rw [Nat.pow_succ] at hn; omega) (by omega) (by simp; omega), Dec.pre_step n h, List.append_assoc]
      rfl
theorem rdigits_f (a : Int) (k : Nat) (hk : 20 < k) : turncockref1_Digits.f k a = some ⟨(Dec.dec (hold a).toNat).toArray⟩ := by
  have ha := hold_rng a
  unfold turncockref1_Digits.f
  rw [rhold_f]
  simp only [Option.bind_some]
  obtain ⟨n, hn⟩ : ∃ n : Nat, hold a = n := ⟨(hold a).toNat, by omega⟩
  rw [hn] at ha ⊢
  rw [Int.toNat_natCast]
  by_cases h : n = 0
  · subst h; rw [if_pos (show ((0 : Nat) : Int) = 0 from rfl), Dec.dec_small 0 (by omega)]; rfl
  · rw [if_neg (by omega)]
    have := rdig_l0 19 k n [] (by omega) (by omega) (by omega) (by simp)
    rw [this, List.append_nil]
    unfold Dec.pre; rw [if_neg h]
theorem NumBack : turncocklaw1_NumBack.Pure := by
  intro a _
  obtain ⟨K, hK⟩ := awake_ev
  have ha := hold_rng a
  have hsz : (⟨(Dec.dec (hold a).toNat).toArray⟩ : ByteArray).size ≤ 19 := by
    show (Dec.dec (hold a).toNat).toArray.size ≤ 19
    simp only [List.size_toArray]
    exact Dec.dec_len 18 _ (by omega)
  refine ⟨K + 100, ?_⟩
  unfold turncocklaw1_NumBack.f
  rw [digits_f a _ (by omega)]
  simp only [Option.bind_some]
  obtain ⟨hg, hv⟩ := dec_good (l := (⟨(Dec.dec (hold a).toNat).toArray⟩ : ByteArray).data.toList) (n := (hold a).toNat) (by simp) (by unfold MX; omega)
  rw [parse_good _ _ (by omega) hg]
  simp only [Option.bind_some, if_true]
  rw [rhold_f, rdigits_f a _ (by omega), hv, hK _ (by omega)]
  simp only [Option.bind_some, if_true]
  rw [if_pos (by omega)]

end Go.Proofs.Ytjiaombbjmhmoaa.Pure
