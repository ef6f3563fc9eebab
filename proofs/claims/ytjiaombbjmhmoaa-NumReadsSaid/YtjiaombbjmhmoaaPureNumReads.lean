/- NumReads: a text is a number just if it is that number's digits, from 0 to the greatest, for every text; no condition. -/
import Derived.Test.YtjiaombbjmhmoaaPNumReadsx2
import Derived.Test.YtjiaombbjmhmoaaDec
set_option linter.unusedSimpArgs false
set_option linter.unusedVariables false
namespace Go.Proofs.Ytjiaombbjmhmoaa.Pure
open Go.RowKit Go.Proofs.Ytjiaombbjmhmoaa.PNumReads Go.Proofs.YtjiaombbjmhmoaaW.PrintWords Go.Proofs.YtjiaombbjmhmoaaW.PrintLast Go.Proofs.YtjiaombbjmhmoaaW.PrintMore
open Go.Proofs.Ytjiaombbjmhmoaa

def hold (a : Int) : Int := if a < 0 then 0 else if a > 4611686018427387904 then 4611686018427387904 else a
theorem hold_rng (a : Int) : 0 ≤ hold a ∧ hold a ≤ 4611686018427387904 := by
  unfold hold
  repeat' split
  all_goals omega
theorem hold_in (a : Int) (h0 : 0 ≤ a) (h1 : a ≤ 4611686018427387904) : hold a = a := by
  unfold hold
  rw [if_neg (by omega), if_neg (by omega)]
theorem numhold_f (a : Int) : num_Hold.f a = some (hold a) := by
  unfold num_Hold.f hold mx mn
  congr 1
  repeat' split
  all_goals omega
def addH (a b : Int) : Int := if hold a + hold b > 4611686018427387904 then 4611686018427387904 else hold a + hold b
theorem add_f (a b : Int) : num_Add.f a b = some (addH a b) := by
  have ha := hold_rng a
  have hb := hold_rng b
  unfold num_Add.f addH
  rw [numhold_f, numhold_f]
  simp only [Option.bind_some]
  rw [show wrap64 (4611686018427387904 - hold b) = 4611686018427387904 - hold b from by unfold wrap64; omega]
  by_cases h : hold a + hold b > 4611686018427387904
  · rw [if_pos h, if_pos (by omega)]
  · rw [if_neg h, if_neg (by omega), show wrap64 (hold a + hold b) = hold a + hold b from by unfold wrap64; omega]
def mulH (a b : Int) : Int := if hold a * hold b > 4611686018427387904 then 4611686018427387904 else hold a * hold b
theorem mul_f (a b : Int) : num_Mul.f a b = some (mulH a b) := by
  have ha := hold_rng a
  have hb := hold_rng b
  have h0 : 0 ≤ hold a * hold b := Int.mul_nonneg ha.1 hb.1
  unfold num_Mul.f mulH
  rw [numhold_f, numhold_f]
  simp only [Option.bind_some]
  by_cases h1 : hold b > 0
  · have key : hold a ≤ 4611686018427387904 / hold b ↔ hold a * hold b ≤ 4611686018427387904 := Int.le_ediv_iff_mul_le h1
    rw [if_pos h1]
    by_cases h : hold a * hold b > 4611686018427387904
    · rw [if_pos h, if_pos (by omega)]
    · rw [if_neg h, if_neg (by omega), show wrap64 (hold a * hold b) = hold a * hold b from by unfold wrap64; omega]
  · have e : hold b = 0 := by omega
    rw [if_neg h1, e, Int.mul_zero]; simp [wrap64]
theorem awake_ev : ∃ K, ∀ k, K ≤ k → turncocklaw1_awake.f k = some true := Ev.of turncocklaw1_awake.mono (k := 30) (by decide +kernel)
def toB (z : Int) : UInt8 := UInt8.ofNat z.toNat
theorem toB_nat (n : Nat) : toB (n : Int) = UInt8.ofNat n := by unfold toB; rw [Int.toNat_natCast]
theorem digit_term (n : Nat) : (wrap64 (48 + Int.tmod (n : Int) 10)) % 256 = ((48 + n % 10 : Nat) : Int) := by
  rw [Int.tmod_eq_emod_of_nonneg (by omega)]
  unfold wrap64
  omega
theorem quo_term (n : Nat) (h : n ≤ 4611686018427387904) : wrap64 (Int.tdiv (n : Int) 10) = ((n / 10 : Nat) : Int) := by
  rw [Int.tdiv_eq_ediv_of_nonneg (by omega)]
  unfold wrap64
  omega
theorem dig_l0 (d : Nat) : ∀ (k n : Nat) (acc : List Int), n ≤ 4611686018427387904 → n < 10 ^ d → d < k → acc.length + d ≤ 1000 →
    num_Digits.l0 k (n : Int) acc = some ⟨(Dec.pre n ++ acc.map toB).toArray⟩ := by
  induction d with
  | zero =>
    intro k n acc hm hn hk ha
    obtain ⟨k, rfl⟩ : ∃ m, k = m + 1 := ⟨k - 1, by omega⟩
    obtain rfl : n = 0 := by omega
    simp only [num_Digits.l0]
    rw [if_neg (by omega)]; rfl
  | succ d ih =>
    intro k n acc hm hn hk ha
    obtain ⟨k, rfl⟩ : ∃ m, k = m + 1 := ⟨k - 1, by omega⟩
    by_cases h : n = 0
    · subst h
      simp only [num_Digits.l0]
      rw [if_neg (by omega)]; rfl
    · simp only [num_Digits.l0]
      rw [if_pos (by omega), digit_term, quo_term n hm]
      simp only [Option.bind_some]
      rw [if_pos (by simp; omega), ih k (n / 10) _ (by omega) (by rw [Nat.pow_succ] at hn; omega) (by omega) (by simp; omega), Dec.pre_step n h]
      simp only [List.map_append, List.map_cons, List.map_nil, toB_nat, List.append_assoc]
theorem digits_f (a : Int) (k : Nat) (hk : 20 < k) : num_Digits.f k a = some ⟨(Dec.dec (hold a).toNat).toArray⟩ := by
  have ha := hold_rng a
  unfold num_Digits.f
  rw [numhold_f]
  simp only [Option.bind_some]
  obtain ⟨n, hn⟩ : ∃ n : Nat, hold a = n := ⟨(hold a).toNat, by omega⟩
  rw [hn] at ha ⊢
  rw [digit_term, quo_term n (by omega), dig_l0 19 k (n / 10) _ (by omega) (by omega) (by omega) (by simp)]
  rw [Int.toNat_natCast, Dec.dec_pre n]
  simp only [List.map_cons, List.map_nil, toB_nat]
/-- What digits are worth upon a. -/
def valF (a : Nat) (l : List UInt8) : Nat := l.foldl (fun a c => a * 10 + (c.toNat - 48)) a
theorem valF_ge (l : List UInt8) : ∀ a, a ≤ valF a l := by
  induction l with
  | nil => intro a; exact Nat.le_refl _
  | cons c l ih => intro a; exact Nat.le_trans (by omega) (ih (a * 10 + (c.toNat - 48)))
def allD (l : List UInt8) : Prop := ∀ c ∈ l, Dec.isDig c
def MX : Nat := 4611686018427387904
theorem sat_step (a d : Nat) (hd : d ≤ 9) : addH (mulH ((min a MX : Nat) : Int) 10) (d : Int) = ((min (a * 10 + d) MX : Nat) : Int) := by
  have e1 : hold ((min a MX : Nat) : Int) = ((min a MX : Nat) : Int) := hold_in _ (by omega) (by unfold MX; omega)
  have e2 : hold (10 : Int) = 10 := rfl
  have e3 : hold (d : Int) = d := hold_in _ (by omega) (by omega)
  have e4 : mulH ((min a MX : Nat) : Int) 10 = ((min (a * 10) MX : Nat) : Int) := by
    unfold mulH; rw [e1, e2]; unfold MX; split <;> omega
  unfold addH
  rw [e4, e3, hold_in _ (by omega) (by unfold MX; omega)]
  unfold MX; split <;> omega
theorem byte_next (s : ByteArray) (pos : Nat) (h : pos < s.size) :
    (((Utf8.decode s pos) = ((s[pos]'h).toNat, 1)) ∨ 128 ≤ (Utf8.decode s pos).1) ∧ ((s[pos]'h).toNat < 128 → (Utf8.decode s pos) = ((s[pos]'h).toNat, 1)) ∧ (128 ≤ (s[pos]'h).toNat → 128 ≤ (Utf8.decode s pos).1) := by
  by_cases ha : (s[pos]'h).toNat < 128
  · have := decode_ascii s pos h ha
    exact ⟨.inl this, fun _ => this, fun h => by omega⟩
  · have := (decode_high s pos h (by omega)).1
    exact ⟨.inr this, fun h => by omega, fun _ => this⟩
theorem parse_l0 (s : ByteArray) (d : Nat) : ∀ (k pos a : Nat), pos + d = s.size → d + 21 < k →
    (allD (s.data.toList.drop pos) → num_Parse.l0 k s pos ((min a MX : Nat) : Int) = if ¬ Dec.dec (min (valF a (s.data.toList.drop pos)) MX) = s.data.toList then some (0, false) else some (((min (valF a (s.data.toList.drop pos)) MX : Nat) : Int), true)) ∧
    (¬ allD (s.data.toList.drop pos) → num_Parse.l0 k s pos ((min a MX : Nat) : Int) = some (0, false)) := by
  have hl : s.data.toList.length = s.size := by simp
  induction d with
  | zero =>
    intro k pos a hp hk
    obtain ⟨k, rfl⟩ : ∃ m, k = m + 1 := ⟨k - 1, by omega⟩
    have e : s.data.toList.drop pos = [] := List.drop_eq_nil_of_le (by omega)
    rw [e]
    refine ⟨fun _ => ?_, fun h => absurd (fun c hc => by simp at hc) h⟩
    simp only [num_Parse.l0]
    rw [if_neg (by omega), digits_f _ _ (by omega)]
    simp only [Option.bind_some]
    rw [hold_in _ (by omega) (by unfold MX; omega), Int.toNat_natCast, ByteArray.toList_eq, ByteArray.toList_eq]
    rfl
  | succ d ih =>
    intro k pos a hp hk
    obtain ⟨k, rfl⟩ : ∃ m, k = m + 1 := ⟨k - 1, by omega⟩
    have hlt : pos < s.size := by omega
    have e : s.data.toList.drop pos = s[pos]'hlt :: s.data.toList.drop (pos + 1) := by
      rw [List.drop_eq_getElem_cons (by omega)]; rfl
    obtain ⟨b0, b1, b2⟩ := byte_next s pos hlt
    rw [e]
    have hcons : allD (s[pos]'hlt :: s.data.toList.drop (pos + 1)) ↔ Dec.isDig (s[pos]'hlt) ∧ allD (s.data.toList.drop (pos + 1)) := by
      unfold allD; simp
    rw [hcons]
    generalize hb : s[pos]'hlt = b at *
    have hv : valF a (b :: s.data.toList.drop (pos + 1)) = valF (a * 10 + (b.toNat - 48)) (s.data.toList.drop (pos + 1)) := rfl
    rw [hv]
    have hblt := b.toNat_lt
    simp only [num_Parse.l0]
    rw [if_pos hlt]
    by_cases hd : Dec.isDig b
    · have hd' := hd
      unfold Dec.isDig at hd'
      have hdec := b1 (by omega)
      rw [hdec]
      simp only []
      rw [if_neg (by omega), if_neg (by omega), mul_f]
      simp only [Option.bind_some]
      rw [add_f]
      simp only [Option.bind_some]
      rw [show ((b.toNat : Int) - 48) = ((b.toNat - 48 : Nat) : Int) from by omega, sat_step a (b.toNat - 48) (by omega)]
      obtain ⟨h1, h2⟩ := ih k (pos + 1) (a * 10 + (b.toNat - 48)) (by omega) (by omega)
      exact ⟨fun h => h1 h.2, fun h => h2 (fun h' => h ⟨hd, h'⟩)⟩
    · refine ⟨fun h => absurd h.1 hd, fun _ => ?_⟩
      have hc : (Utf8.decode s pos).1 < 48 ∨ 57 < (Utf8.decode s pos).1 := by
        by_cases ha : b.toNat < 128
        · have h2 : (Utf8.decode s pos).1 = b.toNat := by rw [b1 ha]
          rw [h2]
          unfold Dec.isDig at hd
          omega
        · have := b2 (by omega); omega
      rcases hc with hc | hc
      · rw [if_pos (by omega)]
      · rw [if_neg (by omega), if_pos (by omega)]
/-- What a text is as a number. -/
def good (l : List UInt8) : Prop := allD l ∧ l ≠ [] ∧ (l.length = 1 ∨ l.head? ≠ some 48) ∧ Dec.val l ≤ MX
theorem dec_good {l : List UInt8} {n : Nat} (h : Dec.dec n = l) (hn : n ≤ MX) : good l ∧ Dec.val l = n := by
  have hv : Dec.val l = n := by rw [← h, Dec.val_dec]
  refine ⟨⟨by rw [← h]; exact Dec.dec_digs n, by rw [← h]; exact Dec.dec_ne n, ?_, by omega⟩, hv⟩
  by_cases h0 : n = 0
  · subst h0; rw [← h, Dec.dec_small 0 (by omega)]; exact .inl rfl
  · rw [← h]; exact .inr (Dec.dec_head n (by omega))
theorem parse_good (s : ByteArray) (k : Nat) (hk : s.size + 21 < k) (h : good s.data.toList) : num_Parse.f k s = some ((Dec.val s.data.toList : Int), true) := by
  have := (parse_l0 s s.size k 0 0 (by omega) hk).1 (by rw [List.drop_zero]; exact h.1)
  have e0 : num_Parse.f k s = num_Parse.l0 k s 0 ((min 0 MX : Nat) : Int) := rfl
  rw [e0, this, List.drop_zero]
  have e : min (valF 0 s.data.toList) MX = Dec.val s.data.toList := Nat.min_eq_left h.2.2.2
  rw [e, if_neg]
  rw [Dec.dec_of _ h.1 h.2.1 h.2.2.1]; simp
theorem parse_bad (s : ByteArray) (k : Nat) (hk : s.size + 21 < k) (h : ¬ good s.data.toList) : num_Parse.f k s = some (0, false) := by
  have hp := parse_l0 s s.size k 0 0 (by omega) hk
  rw [List.drop_zero] at hp
  have e0 : num_Parse.f k s = num_Parse.l0 k s 0 ((min 0 MX : Nat) : Int) := rfl
  rw [e0]
  by_cases hd : allD s.data.toList
  · rw [hp.1 hd, if_pos]
    intro e
    exact h (dec_good e (Nat.min_le_right _ _)).1
  · rw [hp.2 hd]
theorem rdigit_f (c : UInt8) : turncockref1_digit.f (c.toNat : Int) = some (decide (48 ≤ c.toNat ∧ c.toNat ≤ 57)) := by
  unfold turncockref1_digit.f
  by_cases h : (c.toNat : Int) ≥ 48
  · rw [if_pos h]
    congr 1
    rw [decide_eq_decide]; omega
  · rw [if_neg h]
    congr 1
    rw [eq_comm, decide_eq_false_iff_not]; omega
theorem step_wrap (a d : Nat) (h : a * 10 + d ≤ 4611686018427387904) : wrap64 (wrap64 ((a : Int) * 10) + (d : Int)) = ((a * 10 + d : Nat) : Int) := by
  have e : wrap64 ((a : Int) * 10) = (a : Int) * 10 := by unfold wrap64; omega
  rw [e]
  unfold wrap64
  omega
theorem rparse_l0 (s : ByteArray) (hn : s.size ≤ 9000000000000000000) (d : Nat) : ∀ (k pos a : Nat), pos + d = s.size → a ≤ MX → d < k →
    (allD (s.data.toList.drop pos) ∧ valF a (s.data.toList.drop pos) ≤ MX → turncockref1_Parse.l0 k s (a : Int) (pos : Int) = some ((valF a (s.data.toList.drop pos) : Int), true)) ∧
    (¬ (allD (s.data.toList.drop pos) ∧ valF a (s.data.toList.drop pos) ≤ MX) → turncockref1_Parse.l0 k s (a : Int) (pos : Int) = some (0, false)) := by
  have hl : s.data.toList.length = s.size := by simp
  induction d with
  | zero =>
    intro k pos a hp ha hk
    obtain ⟨k, rfl⟩ : ∃ m, k = m + 1 := ⟨k - 1, by omega⟩
    have e : s.data.toList.drop pos = [] := List.drop_eq_nil_of_le (by omega)
    rw [e]
    refine ⟨fun _ => ?_, fun h => absurd ⟨fun c hc => by simp at hc, ha⟩ h⟩
    simp only [turncockref1_Parse.l0]
    rw [if_neg (by omega)]; rfl
  | succ d ih =>
    intro k pos a hp ha hk
    obtain ⟨k, rfl⟩ : ∃ m, k = m + 1 := ⟨k - 1, by omega⟩
    have hlt : pos < s.size := by omega
    have e : s.data.toList.drop pos = s[pos]'hlt :: s.data.toList.drop (pos + 1) := by
      rw [List.drop_eq_getElem_cons (by omega)]; rfl
    have hbt : bt s (pos : Int) = ((s[pos]'hlt).toNat : Int) := by
      unfold bt; simp only [Int.toNat_natCast]; rw [dif_pos hlt]
    rw [e]
    have hcons : allD (s[pos]'hlt :: s.data.toList.drop (pos + 1)) ↔ Dec.isDig (s[pos]'hlt) ∧ allD (s.data.toList.drop (pos + 1)) := by
      unfold allD; simp
    rw [hcons]
    generalize hb : s[pos]'hlt = b at *
    have hv : valF a (b :: s.data.toList.drop (pos + 1)) = valF (a * 10 + (b.toNat - 48)) (s.data.toList.drop (pos + 1)) := rfl
    rw [hv]
    have hblt := b.toNat_lt
    simp only [turncockref1_Parse.l0]
    rw [if_pos (by omega), if_pos (by omega), hbt, rdigit_f]
    simp only [Option.bind_some]
    by_cases hd : Dec.isDig b
    · have hd' := hd
      unfold Dec.isDig at hd'
      rw [if_pos (by simpa using hd')]
      have em : ((b.toNat : Int) - 48) % 256 = ((b.toNat - 48 : Nat) : Int) := by omega
      have hdb : b.toNat - 48 ≤ 9 := by omega
      rw [em]
      clear em hd'
      generalize hdd : b.toNat - 48 = dd at *
      have hge := valF_ge (s.data.toList.drop (pos + 1)) (a * 10 + dd)
      have e2 : wrap64 ((pos : Int) + 1) = ((pos + 1 : Nat) : Int) := by unfold wrap64; omega
      by_cases ho : (a : Int) > (4611686018427387904 - ((dd : Nat) : Int)) / 10
      · rw [if_pos ho]
        have hov : a * 10 + dd > MX := by unfold MX; omega
        refine ⟨fun h => ?_, fun _ => rfl⟩
        have := h.2
        omega
      · rw [if_neg ho]
        have hle : a * 10 + dd ≤ 4611686018427387904 := by omega
        rw [step_wrap a dd hle, e2]
        obtain ⟨h1, h2⟩ := ih k (pos + 1) (a * 10 + dd) (by omega) (by unfold MX; omega) (by omega)
        exact ⟨fun h => h1 ⟨h.1.2, h.2⟩, fun h => h2 (fun h' => h ⟨⟨hd, h'.1⟩, h'.2⟩)⟩
    · have hd' := hd
      unfold Dec.isDig at hd'
      rw [if_neg (by simp; omega)]
      exact ⟨fun h => absurd h.1.1 hd, fun _ => rfl⟩
theorem good_len {l : List UInt8} (h : good l) : 1 ≤ l.length ∧ l.length ≤ 19 := by
  refine ⟨List.length_pos_iff.2 h.2.1, ?_⟩
  have e := Dec.dec_of l h.1 h.2.1 h.2.2.1
  have := Dec.dec_len 18 (Dec.val l) (by have := h.2.2.2; unfold MX at this; omega)
  rw [e] at this
  exact this
theorem head_bt (s : ByteArray) (h : 0 < s.size) : (bt s 0 == 48) = decide (s.data.toList.head? = some 48) := by
  have hl : s.data.toList.length = s.size := by simp
  have e : bt s 0 = ((s[0]'h).toNat : Int) := by unfold bt; rw [dif_pos (show (0 : Int).toNat < s.size from h)]; rfl
  have e2 : s.data.toList.head? = some (s[0]'h) := by rw [List.head?_eq_getElem?, List.getElem?_eq_getElem (by omega)]; rfl
  rw [e, e2, Bool.eq_iff_iff, beq_iff_eq, decide_eq_true_iff]
  constructor
  · intro h; congr 1; apply UInt8.toNat_inj.1; have e3 : (48 : UInt8).toNat = 48 := rfl; omega
  · intro h; rw [Option.some.inj h]; rfl
theorem rparse_good (s : ByteArray) (hn : s.size ≤ 9000000000000000000) (k : Nat) (hk : s.size + 1 < k) (h : good s.data.toList) : turncockref1_Parse.f k s = some ((Dec.val s.data.toList : Int), true) := by
  have hl : s.data.toList.length = s.size := by simp
  have hlen := good_len h
  obtain ⟨k, rfl⟩ : ∃ m, k = m + 1 := ⟨k - 1, by omega⟩
  have hp := (rparse_l0 s hn s.size k 0 0 (by omega) (by unfold MX; omega) (by omega)).1 (by rw [List.drop_zero]; exact ⟨h.1, h.2.2.2⟩)
  rw [List.drop_zero] at hp
  have hj : turncockref1_Parse.j0 (k + 1) s false = some ((Dec.val s.data.toList : Int), true) := by
    simp only [turncockref1_Parse.j0]
    rw [if_neg (by decide)]; exact hp
  unfold turncockref1_Parse.f
  rw [if_neg (by omega), if_neg (by omega)]
  by_cases h1 : (s.size : Int) > 1
  · rw [if_pos h1, if_pos (by omega), head_bt s (by omega), decide_eq_false]
    · exact hj
    · rcases h.2.2.1 with h3 | h3
      · omega
      · exact h3
  · rw [if_neg h1]; exact hj
theorem rparse_bad (s : ByteArray) (hn : s.size ≤ 9000000000000000000) (k : Nat) (hk : s.size + 1 < k) (h : ¬ good s.data.toList) : turncockref1_Parse.f k s = some (0, false) := by
  have hl : s.data.toList.length = s.size := by simp
  obtain ⟨k, rfl⟩ : ∃ m, k = m + 1 := ⟨k - 1, by omega⟩
  have hjt : turncockref1_Parse.j0 (k + 1) s true = some (0, false) := by
    simp only [turncockref1_Parse.j0]; rfl
  have hjf : s.data.toList ≠ [] → (s.data.toList.length = 1 ∨ s.data.toList.head? ≠ some 48) → turncockref1_Parse.j0 (k + 1) s false = some (0, false) := by
    intro h1 h2
    have hp := (rparse_l0 s hn s.size k 0 0 (by omega) (by unfold MX; omega) (by omega)).2 (by rw [List.drop_zero]; exact fun h3 => h ⟨h3.1, h1, h2, h3.2⟩)
    simp only [turncockref1_Parse.j0]
    rw [if_neg (by decide)]; exact hp
  unfold turncockref1_Parse.f
  by_cases h1 : (s.size : Int) < 1
  · rw [if_pos h1]; exact hjt
  rw [if_neg h1]
  by_cases h2 : (s.size : Int) > 19
  · rw [if_pos h2]; exact hjt
  rw [if_neg h2]
  have hne : s.data.toList ≠ [] := List.length_pos_iff.1 (by omega)
  by_cases h3 : (s.size : Int) > 1
  · rw [if_pos h3, if_pos (by omega), head_bt s (by omega)]
    by_cases h4 : s.data.toList.head? = some 48
    · rw [decide_eq_true h4]; exact hjt
    · rw [decide_eq_false h4]; exact hjf hne (.inr h4)
  · rw [if_neg h3]; exact hjf hne (.inl (by omega))
theorem NumReads : turncocklaw1_NumReads.Pure := by
  intro s hn
  obtain ⟨K, hK⟩ := awake_ev
  refine ⟨K + s.size + 30, ?_⟩
  unfold turncocklaw1_NumReads.f
  rw [hK _ (by omega)]
  by_cases h0 : (s.size : Int) > 200
  · rw [if_pos h0]; rfl
  rw [if_neg h0]
  by_cases hg : good s.data.toList
  · rw [parse_good s _ (by omega) hg, rparse_good s (by omega) _ (by omega) hg]
    simp only [Option.bind_some, if_true, beq_self_eq_true]
    rw [digits_f _ _ (by omega)]
    simp only [Option.bind_some]
    rw [hold_in _ (by omega) (by have := hg.2.2.2; unfold MX at this; omega), Int.toNat_natCast, Dec.dec_of _ hg.1 hg.2.1 hg.2.2.1, if_pos (by simp [ByteArray.toList_eq])]
  · rw [parse_bad s _ (by omega) hg, rparse_bad s (by omega) _ (by omega) hg]
    simp

end Go.Proofs.Ytjiaombbjmhmoaa.Pure
