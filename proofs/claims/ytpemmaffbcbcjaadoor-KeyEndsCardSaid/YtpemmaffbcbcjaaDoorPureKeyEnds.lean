/- KeyEnds: a key's window ends behind now, by no more than its unit, and till then the key is the same; the tables of Go's library that the row lists are tied by the card. -/
import Derived.Test.YtpemmaffbcbcjaaDoorPKeyEndsx7
import Derived.Test.YtpemmaffbcbcjaaDoorDec
set_option linter.unusedSimpArgs false
set_option linter.unusedVariables false
namespace Go.Proofs.YtpemmaffbcbcjaaDoor.Pure
open Go.RowKit Go.Proofs.YtpemmaffbcbcjaaDoor.PKeyEnds Go.Proofs.YtpemmaffbcbcjaaDoorW.PrintWords Go.Proofs.YtpemmaffbcbcjaaDoorW.PrintLast Go.Proofs.YtpemmaffbcbcjaaDoorW.PrintMore
open Go.Proofs.YtpemmaffbcbcjaaDoor

theorem step1 {i n : Nat} (h : i < n) (hn : n ≤ 9000000000000000000) : wrap64 ((i : Int) + 1) = ((i + 1 : Nat) : Int) := by unfold wrap64; omega
theorem one_back : ∀ n : Fin 256, (desc_Escape.one (UInt8.ofNat n.val) = [UInt8.ofNat n.val] ∧ UInt8.ofNat n.val ≠ 37) ∨ (∃ a b, desc_Escape.one (UInt8.ofNat n.val) = [37, a, b] ∧ desc_plainly.val a b = UInt8.ofNat n.val) := by
  have h : ∀ n : Fin 256, (desc_Escape.one (UInt8.ofNat n.val) = [UInt8.ofNat n.val] ∧ UInt8.ofNat n.val ≠ 37) ∨ (desc_Escape.one (UInt8.ofNat n.val) = [37, desc_Escape.HEX.getD (n.val / 16) 0, desc_Escape.HEX.getD (n.val % 16) 0] ∧ desc_plainly.val (desc_Escape.HEX.getD (n.val / 16) 0) (desc_Escape.HEX.getD (n.val % 16) 0) = UInt8.ofNat n.val) := by decide +kernel
  intro n
  rcases h n with h | ⟨h1, h2⟩
  · exact .inl h
  · exact .inr ⟨_, _, h1, h2⟩
theorem one_back' (c : UInt8) : (desc_Escape.one c = [c] ∧ c ≠ 37) ∨ (∃ a b, desc_Escape.one c = [37, a, b] ∧ desc_plainly.val a b = c) := by
  have h := one_back ⟨c.toNat, c.toNat_lt⟩
  simpa using h
theorem one_good (c : UInt8) : ∀ b ∈ desc_Escape.one c, b.toNat ≠ 44 ∧ b.toNat ≠ 61 ∧ b.toNat ≠ 124 ∧ 32 < b.toNat ∧ b.toNat ≤ 126 := by
  have h : ∀ n : Fin 256, ∀ b ∈ desc_Escape.one (UInt8.ofNat n.val), b.toNat ≠ 44 ∧ b.toNat ≠ 61 ∧ b.toNat ≠ 124 ∧ 32 < b.toNat ∧ b.toNat ≤ 126 := by decide +kernel
  have := h ⟨c.toNat, c.toNat_lt⟩
  simpa using this
theorem all_cons (c : UInt8) (l : List UInt8) : desc_Escape.all (c :: l) = desc_Escape.one c ++ desc_Escape.all l := rfl
theorem all_good (l : List UInt8) : ∀ b ∈ desc_Escape.all l, b.toNat ≠ 44 ∧ b.toNat ≠ 61 ∧ b.toNat ≠ 124 ∧ 32 < b.toNat ∧ b.toNat ≤ 126 := by
  intro b hb
  obtain ⟨c, _, hc⟩ := List.mem_flatMap.1 hb
  exact one_good c b hc
/-- A text escaped, made plain, is that text. -/
theorem un (l : List UInt8) : desc_plainly.all (desc_Escape.all l) = l := by
  induction l with
  | nil => exact desc_plainly.all_nil
  | cons c l ih =>
    rw [all_cons]
    rcases one_back' c with ⟨h1, h2⟩ | ⟨a, b, h1, h2⟩
    · rw [h1]
      show desc_plainly.all (c :: desc_Escape.all l) = _
      rw [desc_plainly.all_plain c _ (fun h => h2 h.1), ih]
    · rw [h1]
      show desc_plainly.all (37 :: a :: b :: desc_Escape.all l) = _
      rw [desc_plainly.all_esc, ih, h2]
theorem esc_eq (a b : List UInt8) : (desc_Escape.all a = desc_Escape.all b) ↔ a = b := ⟨fun h => by rw [← un a, h, un], fun h => by rw [h]⟩
theorem name_l (s : ByteArray) (hn : s.size ≤ 9000000000000000000) (d : Nat) : ∀ i : Nat, i + d = s.size →
    ∃ b : Bool, ∀ k, d < k → desc_Name.l0 k s (s.size : Int) (i : Int) = some (b && (decide (1 ≤ s.size) && decide (s.size ≤ 64))) := by
  induction d with
  | zero =>
    intro i hi
    refine ⟨true, fun k hk => ?_⟩
    obtain ⟨k, rfl⟩ : ∃ m, k = m + 1 := ⟨k - 1, by omega⟩
    simp only [desc_Name.l0]
    rw [if_neg (by omega)]
    by_cases h : (s.size : Int) ≥ 1
    · rw [if_pos h, decide_eq_true (show 1 ≤ s.size by omega), Bool.true_and, Bool.true_and]
      congr 1; rw [decide_eq_decide]; omega
    · rw [if_neg h, decide_eq_false (show ¬ 1 ≤ s.size by omega)]; rfl
  | succ d ih =>
    intro i hi
    by_cases h1 : bt s (i : Int) < 33
    · refine ⟨false, fun k hk => ?_⟩
      obtain ⟨k, rfl⟩ : ∃ m, k = m + 1 := ⟨k - 1, by omega⟩
      simp only [desc_Name.l0]
      rw [if_pos (by omega), if_pos (by omega), if_pos (by omega), if_pos h1]; rfl
    · by_cases h2 : bt s (i : Int) > 126
      · refine ⟨false, fun k hk => ?_⟩
        obtain ⟨k, rfl⟩ : ∃ m, k = m + 1 := ⟨k - 1, by omega⟩
        simp only [desc_Name.l0]
        rw [if_pos (by omega), if_pos (by omega), if_pos (by omega), if_neg h1, if_pos h2]; rfl
      · obtain ⟨b, hb⟩ := ih (i + 1) (by omega)
        refine ⟨b, fun k hk => ?_⟩
        obtain ⟨k, rfl⟩ : ∃ m, k = m + 1 := ⟨k - 1, by omega⟩
        simp only [desc_Name.l0]
        rw [if_pos (by omega), if_pos (by omega), if_pos (by omega), if_neg h1, if_neg h2, step1 (show i < s.size by omega) hn]
        exact hb k (by omega)
def nm (s : ByteArray) : Bool := (desc_Name.f (s.size + 2) s).getD false
theorem nm_same (s : ByteArray) (hn : s.size ≤ 9000000000000000000) : (nm s = true → s.size ≤ 64) ∧ ∀ k, s.size + 1 < k → desc_Name.f k s = some (nm s) := by
  obtain ⟨b, hb⟩ := name_l s hn s.size 0 (by omega)
  have e : nm s = (b && (decide (1 ≤ s.size) && decide (s.size ≤ 64))) := by unfold nm desc_Name.f; have := hb (s.size + 2) (by omega); rw [show ((0 : Nat) : Int) = 0 from rfl] at this; rw [this]; rfl
  rw [e]
  exact ⟨fun h => by simp at h; omega, fun k hk => hb k (by omega)⟩
theorem nm_ev (s : ByteArray) (hn : s.size ≤ 9000000000000000000) : Ev (fun k => desc_Name.f k s) (nm s) := ⟨s.size + 2, fun k hk => (nm_same s hn).2 k (by omega)⟩
def okE (x : S47) : Bool := nm x.f0 && decide (x.f1.size ≤ 128)
def ck (l : List S47) : Bool := decide (1 ≤ l.length) && decide (l.length ≤ 8) && l.all okE
theorem rd_at {l : List S47} {i : Nat} (h : i < l.length) : rd_T47 l (i : Int) = l[i] := by
  unfold rd_T47; rw [Int.toNat_natCast, List.getD_eq_getElem?_getD, List.getElem?_eq_getElem h]; rfl
theorem check_loop (l : List S47) (hl : l.length ≤ 9000000000000000000) (hx : ∀ x ∈ l, x.f0.size ≤ 9000000000000000000) (d : Nat) : ∀ i : Nat, i + d = l.length →
    Ev (fun k => desc_Check.l0 k l (l.length : Int) (i : Int)) (if (l.drop i).all okE = true then 0 else 1) := by
  induction d with
  | zero =>
    intro i hi
    refine Ev.step (f := fun _ => some 0) (fun k => ?_) ?_
    · simp only [desc_Check.l0]; rw [if_neg (by omega)]
    · rw [List.drop_eq_nil_of_le (by omega)]; exact Ev.now 0
  | succ d ih =>
    intro i hi
    have hlt : i < l.length := by omega
    refine Ev.step (f := fun k => (desc_Name.f k (l[i]).f0).bind fun t => if t = true then (if ((l[i]).f1.size : Int) > 128 then some 1 else desc_Check.l0 k l (l.length : Int) ((i + 1 : Nat) : Int)) else some 1) (fun k => ?_) ?_
    · simp only [desc_Check.l0]
      rw [if_pos (by omega), if_pos (by omega), if_pos (by omega), rd_at hlt, step1 hlt hl]
    · refine Ev.bind (nm_ev _ (hx _ (List.getElem_mem hlt))) ?_
      rw [List.drop_eq_getElem_cons hlt, List.all_cons]
      unfold okE
      by_cases h : nm (l[i]).f0 = true
      · by_cases h2 : ((l[i]).f1.size : Int) > 128
        · have h3 : ¬ (l[i]).f1.size ≤ 128 := by omega
          simp only [h, h2, h3, if_true, decide_false, Bool.and_false, Bool.false_and]
          exact Ev.now _
        · have h3 : (l[i]).f1.size ≤ 128 := by omega
          simp only [h, h2, h3, if_true, if_false, decide_true, Bool.and_true, Bool.true_and]
          exact ih (i + 1) (by omega)
      · simp only [Bool.not_eq_true] at h
        simp only [h, Bool.false_eq_true, if_false, Bool.false_and]
        exact Ev.now _
theorem check_ev (l : List S47) (hl : l.length ≤ 9000000000000000000) (hx : ∀ x ∈ l, x.f0.size ≤ 9000000000000000000) :
    Ev (fun k => desc_Check.f k l) (if ck l = true then 0 else 1) := by
  have hc := check_loop l hl hx l.length 0 (by omega)
  unfold desc_Check.f ck
  by_cases h1 : (l.length : Int) < 1
  · simp only [h1, if_true]
    refine Ev.step (f := fun _ => some 1) (fun k => by simp only [desc_Check.j0, if_true]) ?_
    rw [decide_eq_false (show ¬ 1 ≤ l.length by omega)]
    exact Ev.now 1
  · simp only [h1, if_false]
    rw [decide_eq_true (show 1 ≤ l.length by omega)]
    by_cases h2 : (l.length : Int) > 8
    · refine Ev.step (f := fun _ => some 1) (fun k => by simp only [desc_Check.j0, h2, decide_true, if_true]) ?_
      rw [decide_eq_false (show ¬ l.length ≤ 8 by omega)]
      exact Ev.now 1
    · refine Ev.step (f := fun k => desc_Check.l0 k l (l.length : Int) ((0 : Nat) : Int)) (fun k => by simp only [desc_Check.j0, h2, decide_false, Bool.false_eq_true, if_false]; rfl) ?_
      rw [decide_eq_true (show l.length ≤ 8 by omega), Bool.true_and, Bool.true_and]
      exact hc
/-- What a descriptor that may be is bounded by. -/
theorem ck_size {l : List S47} (hx : ∀ x ∈ l, x.f0.size ≤ 9000000000000000000) (h : ck l = true) : 1 ≤ l.length ∧ l.length ≤ 8 ∧ ∀ x ∈ l, x.f0.size ≤ 64 ∧ x.f1.size ≤ 128 := by
  unfold ck at h
  simp only [Bool.and_eq_true, decide_eq_true_eq, List.all_eq_true] at h
  refine ⟨h.1.1, h.1.2, fun x hm => ?_⟩
  have h2 := h.2 x hm
  unfold okE at h2
  simp only [Bool.and_eq_true, decide_eq_true_eq] at h2
  exact ⟨(nm_same x.f0 (hx x hm)).1 h2.1, h2.2⟩
def bts (l : List UInt8) : ByteArray := ⟨l.toArray⟩
theorem bts_toList (l : List UInt8) : (bts l).toList = l := by rw [ByteArray.toList_eq]; rfl
theorem bts_data (l : List UInt8) : (bts l).data.toList = l := rfl
theorem bts_size (l : List UInt8) : (bts l).size = l.length := by simp [bts, ByteArray.size]
theorem bts_app (l m : List UInt8) : bts l ++ bts m = bts (l ++ m) := by
  apply ByteArray.ext
  simp [bts, ByteArray.data_append]
theorem bts_self (s : ByteArray) : bts s.data.toList = s := by cases s; rfl
theorem bts_inj {s : ByteArray} {l : List UInt8} (h : s.data.toList = l) : s = bts l := by rw [← h, bts_self]
def ent (x : S47) : List UInt8 := desc_Escape.all x.f0.data.toList ++ 61 :: desc_Escape.all x.f1.data.toList
def TT (l : List S47) : List UInt8 := l.flatMap fun y => 44 :: ent y
def T : List S47 → List UInt8
  | [] => []
  | x :: l => ent x ++ TT l
theorem T_join : ∀ l : List S47, Lib.join (l.map ent) [44] = T l
  | [] => rfl
  | [x] => by simp [Lib.join, T, TT, List.intercalate]
  | x :: y :: l => by
    have h := T_join (y :: l)
    unfold Lib.join at h ⊢
    rw [List.map_cons, List.map_cons] at *
    rw [show ([44] : List UInt8).intercalate (ent x :: ent y :: l.map ent) = ent x ++ ([44] ++ ([44] : List UInt8).intercalate (ent y :: l.map ent)) from by simp [List.intercalate, List.intersperse]]
    rw [h]
    simp [T, TT]
theorem ent_len {x : S47} (h : x.f0.size ≤ 64 ∧ x.f1.size ≤ 128) : (ent x).length ≤ 600 := by
  have h1 := desc_Escape.all_len x.f0.data.toList
  have h2 := desc_Escape.all_len x.f1.data.toList
  have e1 : x.f0.data.toList.length = x.f0.size := by simp
  have e2 : x.f1.data.toList.length = x.f1.size := by simp
  unfold ent; rw [List.length_append, List.length_cons]; omega
theorem TT_len : ∀ {l : List S47}, (∀ x ∈ l, x.f0.size ≤ 64 ∧ x.f1.size ≤ 128) → (TT l).length ≤ 601 * l.length
  | [], _ => by simp [TT]
  | x :: l, h => by
    have h1 := ent_len (h x (by simp))
    have h2 := TT_len (l := l) (fun y hy => h y (by simp [hy]))
    unfold TT at *
    rw [List.flatMap_cons, List.length_append, List.length_cons, List.length_cons]; omega
theorem T_len {l : List S47} (h : ∀ x ∈ l, x.f0.size ≤ 64 ∧ x.f1.size ≤ 128) : (T l).length ≤ 601 * l.length := by
  cases l with
  | nil => simp [T]
  | cons x l =>
    have h1 := ent_len (h x (by simp))
    have h2 := TT_len (l := l) (fun y hy => h y (by simp [hy]))
    unfold T; rw [List.length_append, List.length_cons]; omega
theorem esc_f (s : ByteArray) (h : s.size ≤ 1099511627776) : desc_Escape.f s = some (bts (desc_Escape.all s.data.toList)) := by unfold desc_Escape.f; rw [if_pos h]; rfl
theorem text_loop (l : List S47) (hl : l.length ≤ 8) (hx : ∀ x ∈ l, x.f0.size ≤ 64 ∧ x.f1.size ≤ 128) (d : Nat) : ∀ i : Nat, i + d = l.length →
    Ev (fun k => desc_Text.l0 k ((l.take i).map fun x => bts (ent x)) l (l.length : Int) (i : Int)) (bts (T l)) := by
  induction d with
  | zero =>
    intro i hi
    have hj : strings_Join.f ((l.take i).map fun x => bts (ent x)) ⟨#[44]⟩ = some (bts (T l)) := by
      rw [List.take_of_length_le (by omega)]
      have e : ((l.map fun x => bts (ent x)).map fun s => s.data.toList) = l.map ent := by rw [List.map_map]; rfl
      have hz := T_len hx
      unfold strings_Join.f
      rw [show (⟨#[44]⟩ : ByteArray).data.toList = [44] from rfl, e, T_join, if_pos ⟨by omega, by rw [List.length_map]; omega⟩]
      rfl
    refine Ev.step (f := fun _ => some (bts (T l))) (fun k => ?_) (Ev.now _)
    simp only [desc_Text.l0]; rw [if_neg (by omega), hj]; rfl
  | succ d ih =>
    intro i hi
    have hlt : i < l.length := by omega
    have hb := hx _ (List.getElem_mem hlt)
    have h1 := desc_Escape.all_len (l[i]).f0.data.toList
    have h2 := desc_Escape.all_len (l[i]).f1.data.toList
    have e1 : (l[i]).f0.data.toList.length = (l[i]).f0.size := by simp
    have e2 : (l[i]).f1.data.toList.length = (l[i]).f1.size := by simp
    refine Ev.step (f := fun k => desc_Text.l0 k ((l.take (i + 1)).map fun x => bts (ent x)) l (l.length : Int) ((i + 1 : Nat) : Int)) (fun k => ?_) (ih (i + 1) (by omega))
    simp only [desc_Text.l0]
    rw [if_pos (by omega), if_pos (by omega), if_pos (by omega), rd_at hlt, esc_f _ (by omega), esc_f _ (by omega)]
    simp only [Option.bind_some, bts_size]
    rw [if_pos (by omega), if_pos (by omega), if_pos (by rw [List.length_map, List.length_take]; omega), step1 hlt (by omega)]
    congr 1
    rw [List.take_succ_eq_append_getElem hlt, List.map_append]
    congr 1
    show [bts _ ++ bts [61] ++ bts _] = [bts _]
    rw [bts_app, bts_app]
    unfold ent; simp
theorem text_ev (l : List S47) (hl : l.length ≤ 9000000000000000000) (hx : ∀ x ∈ l, x.f0.size ≤ 9000000000000000000) :
    Ev (fun k => desc_Text.f k l) (bts (if ck l = true then T l else [])) := by
  unfold desc_Text.f
  refine Ev.bind (check_ev l hl hx) ?_
  cases h : ck l with
  | true =>
    have hs := ck_size hx h
    simp only [if_true]
    exact text_loop l hs.2.1 hs.2.2 l.length 0 (by omega)
  | false =>
    simp only [Bool.false_eq_true, if_false]
    exact Ev.now _
theorem bt_get (s : ByteArray) (i : Nat) (h : i < s.size) : bt s (i : Int) = ((s.data.toList[i]'(by simpa using h)).toNat : Int) := by
  unfold bt; simp only [Int.toNat_natCast]; rw [dif_pos h]; rfl
theorem size_data (s : ByteArray) : s.data.toList.length = s.size := by simp
def hold (a : Int) : Int := if a < 0 then 0 else if a > 4611686018427387904 then 4611686018427387904 else a
theorem hold_rng (a : Int) : 0 ≤ hold a ∧ hold a ≤ 4611686018427387904 := by
  unfold hold
  repeat' split
  all_goals omega
theorem hold_in (a : Int) (h0 : 0 ≤ a) (h1 : a ≤ 4611686018427387904) : hold a = a := by
  unfold hold
  rw [if_neg (by omega), if_neg (by omega)]
theorem numhold_f (a : Int) : num_Hold.f a = some (hold a) := by
  unfold num_Hold.f hold mx mn
  congr 1
  repeat' split
  all_goals omega
def toB (z : Int) : UInt8 := UInt8.ofNat z.toNat
theorem toB_nat (n : Nat) : toB (n : Int) = UInt8.ofNat n := by unfold toB; rw [Int.toNat_natCast]
theorem digit_term (n : Nat) : (wrap64 (48 + Int.tmod (n : Int) 10)) % 256 = ((48 + n % 10 : Nat) : Int) := by
  rw [Int.tmod_eq_emod_of_nonneg (by omega)]
  unfold wrap64
  omega
theorem quo_term (n : Nat) (h : n ≤ 4611686018427387904) : wrap64 (Int.tdiv (n : Int) 10) = ((n / 10 : Nat) : Int) := by
  rw [Int.tdiv_eq_ediv_of_nonneg (by omega)]
  unfold wrap64
  omega
theorem dig_l0 (d : Nat) : ∀ (k n : Nat) (acc : List Int), n ≤ 4611686018427387904 → n < 10 ^ d → d < k → acc.length + d ≤ 1000 →
    num_Digits.l0 k (n : Int) acc = some ⟨(Dec.pre n ++ acc.map toB).toArray⟩ := by
  induction d with
  | zero =>
    intro k n acc hm hn hk ha
    obtain ⟨k, rfl⟩ : ∃ m, k = m + 1 := ⟨k - 1, by omega⟩
    obtain rfl : n = 0 := by omega
    simp only [num_Digits.l0]
    rw [if_neg (by omega)]; rfl
  | succ d ih =>
    intro k n acc hm hn hk ha
    obtain ⟨k, rfl⟩ : ∃ m, k = m + 1 := ⟨k - 1, by omega⟩
    by_cases h : n = 0
    · subst h
      simp only [num_Digits.l0]
      rw [if_neg (by omega)]; rfl
    · simp only [num_Digits.l0]
      rw [if_pos (by omega), digit_term, quo_term n hm]
      simp only [Option.bind_some]
      rw [if_pos (by simp; omega), ih k (n / 10) _ (by omega) (by rw [Nat.pow_succ] at hn; omega) (by omega) (by simp; omega), Dec.pre_step n h]
      simp only [List.map_append, List.map_cons, List.map_nil, toB_nat, List.append_assoc]
theorem digits_f (a : Int) (k : Nat) (hk : 20 < k) : num_Digits.f k a = some ⟨(Dec.dec (hold a).toNat).toArray⟩ := by
  have ha := hold_rng a
  unfold num_Digits.f
  rw [numhold_f]
  simp only [Option.bind_some]
  obtain ⟨n, hn⟩ : ∃ n : Nat, hold a = n := ⟨(hold a).toNat, by omega⟩
  rw [hn] at ha ⊢
  rw [digit_term, quo_term n (by omega), dig_l0 19 k (n / 10) _ (by omega) (by omega) (by omega) (by simp)]
  rw [Int.toNat_natCast, Dec.dec_pre n]
  simp only [List.map_cons, List.map_nil, toB_nat]
def sec (u : Int) : Int := if u = 1 then 1 else if u = 2 then 60 else if u = 3 then 3600 else if u = 4 then 86400 else 0
theorem sec_cases (u : Int) : sec u = 0 ∨ sec u = 1 ∨ sec u = 60 ∨ sec u = 3600 ∨ sec u = 86400 := by
  unfold sec
  repeat' split
  all_goals omega
theorem u_cases (u : Int) : u < 1 ∨ u > 4 ∨ u = 1 ∨ u = 2 ∨ u = 3 ∨ u = 4 := by omega
theorem secs_f (u : Int) : unit_Secs.f u = some (sec u) := by
  rcases u_cases u with h | h | rfl | rfl | rfl | rfl
  · unfold unit_Secs.f sec
    rw [if_pos h, if_neg (by omega), if_neg (by omega), if_neg (by omega), if_neg (by omega)]
  · unfold unit_Secs.f sec
    rw [if_neg (by omega), if_pos h, if_neg (by omega), if_neg (by omega), if_neg (by omega), if_neg (by omega)]
  all_goals decide +kernel
theorem div_f (a b : Int) (h0 : 0 ≤ b) (h1 : b ≤ 86400) : num_Div.f a b = some (if b = 0 then (0, 1) else (hold a / b, 0)) := by
  have hb : hold b = b := by unfold hold; rw [if_neg (by omega), if_neg (by omega)]
  have ha := hold_rng a
  unfold num_Div.f
  rw [numhold_f, numhold_f, hb]
  simp only [Option.bind_some]
  by_cases h : b = 0
  · rw [if_pos h, if_pos h]
  · rw [if_neg h, if_neg h, if_neg h, Int.tdiv_eq_ediv_of_nonneg ha.1]
    have d0 : 0 ≤ hold a / b := Int.ediv_nonneg ha.1 h0
    have d1 : hold a / b ≤ hold a := Int.ediv_le_self _ ha.1
    rw [show wrap64 (hold a / b) = hold a / b from by unfold wrap64; omega]
def win (a u : Int) : Int := hold a / sec u
theorem win_rng (a u : Int) : 0 ≤ win a u ∧ win a u * sec u ≤ hold a := by
  have ha := hold_rng a
  unfold win
  rcases sec_cases u with h | h | h | h | h <;> rw [h] <;> constructor <;> omega
theorem window_f (a u : Int) : unit_Window.f a u = some (win a u) := by
  have hs := sec_cases u
  unfold unit_Window.f
  rw [secs_f]
  simp only [Option.bind_some]
  rw [div_f a (sec u) (by omega) (by omega)]
  simp only [Option.bind_some]
  by_cases h : sec u = 0
  · rw [if_pos h]; unfold win; rw [h, Int.ediv_zero]
  · rw [if_neg h]; rfl
theorem start_f (a u : Int) : unit_Start.f a u = some (win a u * sec u) := by
  have hs := sec_cases u
  have hw := win_rng a u
  have ha := hold_rng a
  have h0 : 0 ≤ win a u * sec u := Int.mul_nonneg hw.1 (by omega)
  unfold unit_Start.f
  rw [window_f, secs_f]
  simp only [Option.bind_some]
  rw [show wrap64 (win a u * sec u) = win a u * sec u from by unfold wrap64; omega]
theorem end_f (a u : Int) : unit_End.f a u = some (win a u * sec u + sec u) := by
  have hs := sec_cases u
  have hw := win_rng a u
  have ha := hold_rng a
  have h0 : 0 ≤ win a u * sec u := Int.mul_nonneg hw.1 (by omega)
  unfold unit_End.f
  rw [start_f, secs_f]
  simp only [Option.bind_some]
  rw [show wrap64 (win a u * sec u + sec u) = win a u * sec u + sec u from by unfold wrap64; omega]
def uname (u : Int) : List UInt8 := if u = 1 then [115, 101, 99, 111, 110, 100] else if u = 2 then [109, 105, 110, 117, 116, 101] else if u = 3 then [104, 111, 117, 114] else if u = 4 then [100, 97, 121] else []
theorem name_f (u : Int) : unit_Name.f u = some (bts (uname u)) := by
  rcases u_cases u with h | h | rfl | rfl | rfl | rfl
  · have hs : sec u = 0 := by unfold sec; rw [if_neg (by omega), if_neg (by omega), if_neg (by omega), if_neg (by omega)]
    unfold unit_Name.f uname
    rw [secs_f, hs, if_neg (by omega), if_neg (by omega), if_neg (by omega), if_neg (by omega)]
    rfl
  · have hs : sec u = 0 := by unfold sec; rw [if_neg (by omega), if_neg (by omega), if_neg (by omega), if_neg (by omega)]
    unfold unit_Name.f uname
    rw [secs_f, hs, if_neg (by omega), if_neg (by omega), if_neg (by omega), if_neg (by omega)]
    rfl
  all_goals rfl
theorem uname_len (u : Int) : (uname u).length ≤ 6 := by
  unfold uname
  repeat' split
  all_goals decide
theorem uname_no (u : Int) : 124 ∉ uname u := by
  unfold uname
  repeat' split
  all_goals decide
theorem index_bar (s : ByteArray) : strings_IndexByte.f s 124 = some (Lib.indexByte s.data.toList 124) := rfl
theorem index_bar_iff (s : ByteArray) : Lib.indexByte s.data.toList 124 ≥ 0 ↔ 124 ∈ s.data.toList := by
  have h : ∀ l : List UInt8, 0 ≤ Lib.indexByte l 124 ↔ 124 ∈ l := by
    intro l
    induction l with
    | nil => simp [Lib.indexByte]
    | cons b l ih =>
      have hg := Lib.indexByte_ge l 124
      unfold Lib.indexByte
      by_cases hb : b = 124
      · simp [hb]
      · have hb1 : (b == 124) = false := beq_eq_false_iff_ne.2 hb
        rw [hb1, List.mem_cons]
        by_cases hm : Lib.indexByte l 124 = -1
        · have hn : ¬ 124 ∈ l := fun h => by have := ih.2 h; omega
          simp [hm, hn]
          exact fun e => hb e.symm
        · have hm1 : (Lib.indexByte l 124 == -1) = false := beq_eq_false_iff_ne.2 hm
          have hy : 124 ∈ l := ih.1 (by omega)
          simp [hm1, hy]
          omega
  exact h _
theorem T_no : ∀ (l : List S47), 124 ∉ T l := by
  have he : ∀ x : S47, 124 ∉ ent x := by
    intro x h
    unfold ent at h
    rcases List.mem_append.1 h with h | h
    · exact (all_good _ _ h).2.2.1 rfl
    · rcases List.mem_cons.1 h with h | h
      · exact absurd h (by decide)
      · exact (all_good _ _ h).2.2.1 rfl
  intro l h
  cases l with
  | nil => simp [T] at h
  | cons x l =>
    unfold T TT at h
    rcases List.mem_append.1 h with h | h
    · exact he x h
    · obtain ⟨y, _, hy⟩ := List.mem_flatMap.1 h
      rcases List.mem_cons.1 hy with hy | hy
      · exact absurd hy (by decide)
      · exact he y hy
theorem dec_no (n : Nat) : 124 ∉ Dec.dec n := by
  intro h
  have := Dec.dec_digs n _ h
  unfold Dec.isDig at this
  exact absurd this (by decide)
theorem dec_short (n : Nat) (h : n ≤ 4611686018427387904) : (Dec.dec n).length ≤ 19 := Dec.dec_len 18 n (by omega)
def keyT (p : List UInt8) (d : List S47) (u w : Int) : List UInt8 := p ++ 124 :: (T d ++ 124 :: (uname u ++ 124 :: Dec.dec w.toNat))
def okK (p : ByteArray) (d : List S47) (u : Int) : Bool := !decide (p.data.toList = []) && !decide (124 ∈ p.data.toList) && ck d && !decide (sec u = 0)
def made (p : ByteArray) (d : List S47) (u now : Int) : ByteArray × Int × Bool := if okK p d u = true then (bts (keyT p.data.toList d u (win now u)), win now u * sec u + sec u, true) else (bts [], 0, false)
theorem win_small (now u : Int) : 0 ≤ win now u ∧ win now u ≤ 4611686018427387904 := by
  have ha := hold_rng now
  unfold win
  rcases sec_cases u with h | h | h | h | h <;> rw [h] <;> constructor <;> omega
theorem digits_ev (now u : Int) : Ev (fun k => num_Digits.f k (win now u)) (bts (Dec.dec (win now u).toNat)) := by
  have h := win_small now u
  refine ⟨21, fun k hk => ?_⟩
  show num_Digits.f k (win now u) = _
  rw [digits_f _ _ (by omega), hold_in _ h.1 h.2]; rfl
theorem kmake_ev (p : ByteArray) (d : List S47) (u now : Int) (hp : p.size ≤ 1000) (hl : d.length ≤ 3000) (hx : ∀ x ∈ d, x.f0.size ≤ 3000 ∧ x.f1.size ≤ 3000) :
    Ev (fun k => key_Make.f k p d u now) (made p d u now) := by
  have hx' : ∀ x ∈ d, x.f0.size ≤ 9000000000000000000 := fun x h => by have := (hx x h).1; omega
  have hbad : ∀ r, r = (bts [], 0, false) → Ev (fun k => key_Make.j0 k p u now true d) r := fun r e => e ▸ Ev.step (f := fun _ => some (bts [], 0, false)) (fun k => by simp only [key_Make.j0, if_true]; rfl) (Ev.now _)
  unfold key_Make.f made okK
  by_cases h1 : p.data.toList = []
  · simp only [ByteArray.toList_eq p, h1, if_true, decide_true, Bool.not_true, Bool.false_and, Bool.false_eq_true, if_false]
    exact hbad _ rfl
  · simp only [ByteArray.toList_eq p, h1, if_false, decide_false, Bool.not_false, Bool.true_and, index_bar, Option.bind_some]
    by_cases h2 : 124 ∈ p.data.toList
    · have h2' := (index_bar_iff p).2 h2
      simp only [h2', h2, if_true, decide_true, Bool.not_true, Bool.false_and, Bool.false_eq_true, if_false]
      exact hbad _ rfl
    · have h2' : ¬ Lib.indexByte p.data.toList 124 ≥ 0 := fun h => h2 ((index_bar_iff p).1 h)
      simp only [h2', h2, if_false, decide_false, Bool.not_false, Bool.true_and]
      refine Ev.bind (check_ev d (by omega) hx') ?_
      cases hk : ck d with
      | false =>
        simp only [Bool.false_eq_true, if_false, Bool.false_and, show ¬ ((1 : Int) = 0) by decide]
        exact hbad _ rfl
      | true =>
        simp only [if_true, Bool.true_and, secs_f, Option.bind_some]
        by_cases h3 : sec u = 0
        · simp only [h3, BEq.rfl, decide_true, Bool.not_true, Bool.false_eq_true, if_false]
          exact hbad _ rfl
        · have h3' : (sec u == 0) = false := beq_eq_false_iff_ne.2 h3
          simp only [h3', h3, decide_false, Bool.not_false, if_true]
          obtain ⟨_, k2, k3⟩ := ck_size hx' hk
          have hz := T_len k3
          have hd := dec_short (win now u).toNat (by have := win_small now u; omega)
          have hu := uname_len u
          refine Ev.step (f := fun k => (desc_Text.f k d).bind fun t158 => ((unit_Name.f u).bind fun t159 => ((unit_Window.f now u).bind fun t160 => ((num_Digits.f k t160).bind fun t161 => ((strings_Join.f (([p, t158, t159, t161] : List ByteArray)) (⟨#[124]⟩ : ByteArray)).bind fun t165 => ((unit_End.f now u).bind fun t166 => (some (t165, t166, true)))))))) (fun k => by simp only [key_Make.j0, Bool.false_eq_true, if_false]) ?_
          refine Ev.bind (text_ev d (by omega) hx') ?_
          simp only [name_f, window_f, Option.bind_some, hk, if_true]
          refine Ev.bind (digits_ev now u) ?_
          have hj : strings_Join.f [p, bts (T d), bts (uname u), bts (Dec.dec (win now u).toNat)] ⟨#[124]⟩ = some (bts (keyT p.data.toList d u (win now u))) := by
            have e : Lib.join ([p, bts (T d), bts (uname u), bts (Dec.dec (win now u).toNat)].map (·.data.toList)) (⟨#[124]⟩ : ByteArray).data.toList = keyT p.data.toList d u (win now u) := by
              simp [Lib.join, List.intercalate, List.intersperse, keyT, bts]
            unfold strings_Join.f
            rw [e, if_pos ⟨by unfold keyT; simp only [List.length_append, List.length_cons, size_data]; omega, by simp⟩]
            rfl
          simp only [hj, end_f, Option.bind_some]
          exact Ev.now _
theorem rsecs_f (u : Int) : turncockref15_Secs.f u = some (sec u) := by
  unfold turncockref15_Secs.f sec
  repeat' split
  all_goals rfl
theorem rhold_f (a : Int) : turncockref1_Hold.f a = some (hold a) := by
  unfold turncockref1_Hold.f hold
  repeat' split
  all_goals rfl
theorem awake_ev : ∃ K, ∀ k, K ≤ k → turncocklaw25_awake.f k = some true := Ev.of turncocklaw25_awake.mono (k := 40) (by decide +kernel)
theorem mn_size (n : Nat) (h : n ≤ 9223372036854775807) : 0 ≤ mn (n : Int) 2001 ∧ mn (n : Int) 2001 ≤ 2001 ∧ (mn (n : Int) 2001 ≤ 2000 → n ≤ 2000) := by
  unfold mn; split <;> omega
theorem heavy_loop (l : List S47) (hl : l.length ≤ 9000000000000000000) (d : Nat) : ∀ i : Nat, i + d = l.length → ∀ n : Int, 0 ≤ n → n ≤ 9223372036854775807 →
    ∃ b, Ev (fun k => turncocklaw25_heavy.l0 k n (i : Int) l) b ∧ (b = false → n ≤ 2000 ∧ ∀ x ∈ l.drop i, x.f0.size ≤ 2000 ∧ x.f1.size ≤ 2000) := by
  induction d with
  | zero =>
    intro i hi n h0 hn
    refine ⟨decide (n > 2000), Ev.step (f := fun _ => some (decide (n > 2000))) (fun k => ?_) (Ev.now _), fun h => ⟨?_, ?_⟩⟩
    · simp only [turncocklaw25_heavy.l0]; rw [if_neg (by omega)]
    · have := of_decide_eq_false h; omega
    · rw [List.drop_eq_nil_of_le (by omega)]; intro x hx; simp at hx
  | succ d ih =>
    intro i hi n h0 hn
    have hlt : i < l.length := by omega
    by_cases hb : n ≤ 2000
    · have hx : ∀ x : ByteArray, 0 ≤ mn (x.size : Int) 2001 ∧ mn (x.size : Int) 2001 ≤ 2001 ∧ (mn (x.size : Int) 2001 ≤ 2000 → x.size ≤ 2000) := by
        intro x; unfold mn; split <;> omega
      have h1 := hx (l[i]).f0
      have h2 := hx (l[i]).f1
      generalize hm1 : mn ((l[i]).f0.size : Int) 2001 = m1 at h1
      generalize hm2 : mn ((l[i]).f1.size : Int) 2001 = m2 at h2
      obtain ⟨b, hbv, hs⟩ := ih (i + 1) (by omega) (n + m1 + m2) (by omega) (by omega)
      refine ⟨b, Ev.step (fun k => ?_) hbv, fun h => ⟨hb, ?_⟩⟩
      · have w1 : wrap64 (n + m1) = n + m1 := by unfold wrap64; omega
        have w2 : wrap64 (n + m1 + m2) = n + m1 + m2 := by unfold wrap64; omega
        simp only [turncocklaw25_heavy.l0]
        rw [if_pos (by omega), if_pos hb, if_pos (by omega), rd_at hlt, hm1, hm2, w1, w2, step1 hlt hl]
      · have h3 := hs h
        rw [List.drop_eq_getElem_cons hlt]
        intro x hx'
        rcases List.mem_cons.1 hx' with rfl | hx'
        · exact ⟨h1.2.2 (by omega), h2.2.2 (by omega)⟩
        · exact h3.2 x hx'
    · refine ⟨true, Ev.step (f := fun _ => some true) (fun k => ?_) (Ev.now _), fun h => by cases h⟩
      simp only [turncocklaw25_heavy.l0]
      rw [if_pos (by omega), if_neg hb, decide_eq_true (by omega)]
theorem heavy_ev (l : List S47) (hl : l.length ≤ 9000000000000000000) : ∃ b, Ev (fun k => turncocklaw25_heavy.f k l) b ∧ (b = false → l.length ≤ 2000 ∧ ∀ x ∈ l, x.f0.size ≤ 2000 ∧ x.f1.size ≤ 2000) := by
  obtain ⟨b, h1, h2⟩ := heavy_loop l hl l.length 0 (Nat.zero_add _) (l.length : Int) (by omega) (by omega)
  refine ⟨b, h1, fun h => ?_⟩
  have h3 := h2 h
  rw [List.drop_zero] at h3
  exact ⟨by omega, h3.2⟩
theorem heavy_big (l : List S47) (hl : 2000 < l.length) : Ev (fun k => turncocklaw25_heavy.f k l) true := by
  refine Ev.step (f := fun _ => some true) (fun k => ?_) (Ev.now _)
  unfold turncocklaw25_heavy.f
  simp only [turncocklaw25_heavy.l0]
  rw [if_pos (by omega), if_neg (by omega), decide_eq_true (by omega)]
/-- Whatever the length. -/
theorem heavy_any (l : List S47) : ∃ b, Ev (fun k => turncocklaw25_heavy.f k l) b ∧ (b = false → l.length ≤ 2000 ∧ ∀ x ∈ l, x.f0.size ≤ 2000 ∧ x.f1.size ≤ 2000) := by
  by_cases h : 2000 < l.length
  · exact ⟨true, heavy_big l h, fun e => by cases e⟩
  · exact heavy_ev l (by omega)
theorem awake_ev' : Ev (fun k => turncocklaw25_awake.f k) true := by
  obtain ⟨K, hK⟩ := awake_ev
  exact ⟨K, hK⟩
theorem awake_ev2 : Ev (fun k => (turncocklaw25_awake.f k).bind fun t => some t) true := Ev.bind awake_ev' (Ev.now _)
theorem kends_awake (p : ByteArray) (d : List S47) (u now on : Int) : Ev (fun k => turncocklaw25_KeyEnds.j0 k p u now on true d) true :=
  Ev.step (fun k => by simp only [turncocklaw25_KeyEnds.j0, if_true]) awake_ev2
theorem ends_arith (t n w : Int) (hn : n = 1 ∨ n = 60 ∨ n = 3600 ∨ n = 86400) (ht0 : 0 ≤ t) (hw : w = t / n) : 0 ≤ w ∧ 0 ≤ w * n ∧ w * n ≤ t ∧ t < w * n + n := by
  rcases hn with rfl | rfl | rfl | rfl <;> omega
theorem ends_same (k n w : Int) (hn : n = 1 ∨ n = 60 ∨ n = 3600 ∨ n = 86400) (h1 : w * n ≤ k) (h2 : k < w * n + n) : k / n = w := by
  rcases hn with rfl | rfl | rfl | rfl <;> omega
theorem kends_ev (p : ByteArray) (d : List S47) (u now on : Int) : Ev (fun k => turncocklaw25_KeyEnds.f k p d u now on) true := by
  unfold turncocklaw25_KeyEnds.f
  obtain ⟨b, hb, hs⟩ := heavy_any d
  refine Ev.bind hb ?_
  cases b with
  | true => simp only [if_true]; exact kends_awake p d u now on
  | false =>
    obtain ⟨h1, h2⟩ := hs rfl
    simp only [Bool.false_eq_true, if_false]
    by_cases hp : (p.size : Int) > 1000
    · rw [decide_eq_true hp]; exact kends_awake p d u now on
    · rw [decide_eq_false hp]
      have hmake : ∀ z : Int, Ev (fun k => key_Make.f k p d u z) (made p d u z) := fun z => kmake_ev p d u z (by omega) (by omega) (fun x h => by have := h2 x h; omega)
      refine Ev.step (f := fun k => (key_Make.f k p d u now).bind fun bt239 => (if bt239.2.2 = true then ((turncockref1_Hold.f now).bind fun t243 => ((turncockref15_Secs.f u).bind fun t244 => (if bt239.2.1 ≤ t243 then (turncocklaw25_KeyEnds.j1 k p u on bt239.1 bt239.2.1 t243 t244 true d) else (turncocklaw25_KeyEnds.j1 k p u on bt239.1 bt239.2.1 t243 t244 (decide ((wrap64 (bt239.2.1 - t243)) > t244)) d)))) else (if bt239.1.toList = ([] : List UInt8) then (if bt239.2.1 = 0 then ((turncocklaw25_awake.f k).bind fun t242 => (some t242)) else (some false)) else (some false)))) (fun k => by simp only [turncocklaw25_KeyEnds.j0, Bool.false_eq_true, if_false]) ?_
      refine Ev.bind (hmake now) ?_
      cases ok : okK p d u with
      | false =>
        have hm : made p d u now = (bts [], 0, false) := by unfold made; rw [ok]; rfl
        simp only [hm, Bool.false_eq_true, if_false, bts_toList, if_true]
        exact awake_ev2
      | true =>
        have hm : ∀ z, made p d u z = (bts (keyT p.data.toList d u (win z u)), win z u * sec u + sec u, true) := fun z => by unfold made; rw [ok]; rfl
        have hsec : ¬ sec u = 0 := by
          unfold okK at ok
          simp only [Bool.and_eq_true, Bool.not_eq_true', decide_eq_false_iff_not] at ok
          exact ok.2
        have hn : sec u = 1 ∨ sec u = 60 ∨ sec u = 3600 ∨ sec u = 86400 := by
          rcases sec_cases u with h | h | h | h | h
          · exact absurd h hsec
          · exact .inl h
          · exact .inr (.inl h)
          · exact .inr (.inr (.inl h))
          · exact .inr (.inr (.inr h))
        have hr := hold_rng now
        obtain ⟨a0, a1, a2, a3⟩ := ends_arith (hold now) (sec u) (win now u) hn hr.1 rfl
        have hnn : 1 ≤ sec u ∧ sec u ≤ 86400 := by omega
        simp only [hm, if_true, rhold_f, rsecs_f, Option.bind_some]
        have c1 : ¬ win now u * sec u + sec u ≤ hold now := by omega
        have c2 : ¬ wrap64 (win now u * sec u + sec u - hold now) > sec u := by
          rw [show wrap64 (win now u * sec u + sec u - hold now) = win now u * sec u + sec u - hold now from by unfold wrap64; omega]
          omega
        simp only [c1, if_false, c2, decide_false]
        have hq : 0 ≤ mx (mn on (sec u)) 0 ∧ mx (mn on (sec u)) 0 ≤ sec u := by
          unfold mx mn
          repeat' split
          all_goals omega
        generalize hqq : mx (mn on (sec u)) 0 = q at hq
        have hk1 : wrap64 (hold now + q) = hold now + q := by unfold wrap64; omega
        have hk2 : wrap64 (win now u * sec u + sec u - 1) = win now u * sec u + sec u - 1 := by unfold wrap64; omega
        generalize hz : mn (hold now + q) (win now u * sec u + sec u - 1) = z
        have hzr : hold now ≤ z ∧ z < win now u * sec u + sec u := by
          rw [← hz]; unfold mn
          split <;> omega
        refine Ev.step (f := fun k => (key_Make.f k p d u z).bind fun bt245 => (if z > 4611686018427387904 then ((turncocklaw25_awake.f k).bind fun t248 => (some t248)) else (if bt245.2.2 = true then (if bt245.1.toList = (bts (keyT p.data.toList d u (win now u))).toList then (if bt245.2.1 = win now u * sec u + sec u then ((turncocklaw25_awake.f k).bind fun t249 => (some t249)) else (some false)) else (some false)) else (some false)))) (fun k => by simp only [turncocklaw25_KeyEnds.j1, Bool.false_eq_true, if_false, hqq, hk1, hk2, hz]) ?_
        refine Ev.bind (hmake z) ?_
        by_cases hbig : z > 4611686018427387904
        · simp only [hbig, if_true]; exact awake_ev2
        · have hzh : hold z = z := hold_in z (by omega) (by omega)
          have hw : win z u = win now u := by
            have := ends_same z (sec u) (win now u) hn (by omega) (by omega)
            unfold win at this ⊢
            rw [hzh]; exact this
          simp only [hm, hbig, if_false, if_true, hw]
          exact awake_ev2
theorem KeyEnds (p : ByteArray) (d : List S47) (u now on : Int) (_ : p.size ≤ 140737488351232) (_ : (Lit.int .i64 u).wf = true) (_ : (Lit.int .i64 now).wf = true) (_ : (Lit.int .i64 on).wf = true) :
    ∃ k, turncocklaw25_KeyEnds.f k p d u now on = some true := (kends_ev p d u now on).rounds

end Go.Proofs.YtpemmaffbcbcjaaDoor.Pure
