/- DescApart: two descriptors that may be have one text just if they are alike; the tables of Go's library that the row lists are tied by the card. -/
import Derived.Test.YtpemmaffbcbcjaaDoorPDescApartx7
set_option linter.unusedSimpArgs false
set_option linter.unusedVariables false
namespace Go.Proofs.YtpemmaffbcbcjaaDoor.Pure
open Go.RowKit Go.Proofs.YtpemmaffbcbcjaaDoor.PDescApart Go.Proofs.YtpemmaffbcbcjaaDoorW.PrintWords Go.Proofs.YtpemmaffbcbcjaaDoorW.PrintLast Go.Proofs.YtpemmaffbcbcjaaDoorW.PrintMore
open Go.Proofs.YtpemmaffbcbcjaaDoor

theorem step1 {i n : Nat} (h : i < n) (hn : n ≤ 9000000000000000000) : wrap64 ((i : Int) + 1) = ((i + 1 : Nat) : Int) := by unfold wrap64; omega
theorem name_both (s : ByteArray) (hn : s.size ≤ 9000000000000000000) (d : Nat) : ∀ i : Nat, i + d = s.size →
    ∃ b : Bool, ∀ k, d < k → turncockref1_Name.l0 k s (i : Int) = some b ∧ desc_Name.l0 k s (s.size : Int) (i : Int) = some (b && (decide (1 ≤ s.size) && decide (s.size ≤ 64))) := by
  induction d with
  | zero =>
    intro i hi
    refine ⟨true, fun k hk => ?_⟩
    obtain ⟨k, rfl⟩ : ∃ m, k = m + 1 := ⟨k - 1, by omega⟩
    simp only [turncockref1_Name.l0, desc_Name.l0]
    rw [if_neg (by omega), if_neg (by omega)]
    refine ⟨rfl, ?_⟩
    by_cases h : (s.size : Int) ≥ 1
    · rw [if_pos h, decide_eq_true (show 1 ≤ s.size by omega), Bool.true_and, Bool.true_and]
      congr 1; rw [decide_eq_decide]; omega
    · rw [if_neg h, decide_eq_false (show ¬ 1 ≤ s.size by omega)]; rfl
  | succ d ih =>
    intro i hi
    by_cases h1 : bt s (i : Int) < 33
    · refine ⟨false, fun k hk => ?_⟩
      obtain ⟨k, rfl⟩ : ∃ m, k = m + 1 := ⟨k - 1, by omega⟩
      simp only [turncockref1_Name.l0, desc_Name.l0]
      rw [if_pos (by omega), if_pos (by omega), if_pos h1, if_pos (by omega), if_pos (by omega), if_pos (by omega), if_pos h1]
      exact ⟨rfl, rfl⟩
    · by_cases h2 : bt s (i : Int) > 126
      · refine ⟨false, fun k hk => ?_⟩
        obtain ⟨k, rfl⟩ : ∃ m, k = m + 1 := ⟨k - 1, by omega⟩
        simp only [turncockref1_Name.l0, desc_Name.l0]
        rw [if_pos (by omega), if_pos (by omega), if_neg h1, if_pos h2, if_pos (by omega), if_pos (by omega), if_pos (by omega), if_neg h1, if_pos h2]
        exact ⟨rfl, rfl⟩
      · obtain ⟨b, hb⟩ := ih (i + 1) (by omega)
        refine ⟨b, fun k hk => ?_⟩
        obtain ⟨k, rfl⟩ : ∃ m, k = m + 1 := ⟨k - 1, by omega⟩
        simp only [turncockref1_Name.l0, desc_Name.l0]
        rw [if_pos (by omega), if_pos (by omega), if_neg h1, if_neg h2, if_pos (by omega), if_pos (by omega), if_pos (by omega), if_neg h1, if_neg h2, step1 (show i < s.size by omega) hn]
        exact hb k (by omega)
/-- Is a text a name: both functions tell the same. -/
theorem name_same (s : ByteArray) (hn : s.size ≤ 9000000000000000000) : ∃ b : Bool, (b = true → s.size ≤ 64) ∧ ∀ k, s.size + 1 < k → turncockref1_Name.f k s = some b ∧ desc_Name.f k s = some b := by
  obtain ⟨b, hb⟩ := name_both s hn s.size 0 (by omega)
  refine ⟨b && (decide (1 ≤ s.size) && decide (s.size ≤ 64)), fun h => by simp at h; omega, fun k hk => ⟨?_, (hb k (by omega)).2⟩⟩
  obtain ⟨k, rfl⟩ : ∃ m, k = m + 1 := ⟨k - 1, by omega⟩
  unfold turncockref1_Name.f
  by_cases h1 : (s.size : Int) < 1
  · rw [if_pos h1]
    simp only [turncockref1_Name.j0]
    rw [decide_eq_false (show ¬ 1 ≤ s.size by omega)]
    simp
  · rw [if_neg h1]
    by_cases h2 : (s.size : Int) > 64
    · rw [decide_eq_true h2]
      simp only [turncockref1_Name.j0]
      rw [decide_eq_false (show ¬ s.size ≤ 64 by omega)]
      simp
    · rw [decide_eq_false h2]
      simp only [turncockref1_Name.j0]
      rw [decide_eq_true (show 1 ≤ s.size by omega), decide_eq_true (show s.size ≤ 64 by omega), if_neg (by decide)]
      have := (hb k (by omega)).1
      simp only [Bool.and_true]
      exact this
theorem one_back : ∀ n : Fin 256, (desc_Escape.one (UInt8.ofNat n.val) = [UInt8.ofNat n.val] ∧ UInt8.ofNat n.val ≠ 37) ∨ (∃ a b, desc_Escape.one (UInt8.ofNat n.val) = [37, a, b] ∧ desc_plainly.val a b = UInt8.ofNat n.val) := by
  have h : ∀ n : Fin 256, (desc_Escape.one (UInt8.ofNat n.val) = [UInt8.ofNat n.val] ∧ UInt8.ofNat n.val ≠ 37) ∨ (desc_Escape.one (UInt8.ofNat n.val) = [37, desc_Escape.HEX.getD (n.val / 16) 0, desc_Escape.HEX.getD (n.val % 16) 0] ∧ desc_plainly.val (desc_Escape.HEX.getD (n.val / 16) 0) (desc_Escape.HEX.getD (n.val % 16) 0) = UInt8.ofNat n.val) := by decide +kernel
  intro n
  rcases h n with h | ⟨h1, h2⟩
  · exact .inl h
  · exact .inr ⟨_, _, h1, h2⟩
theorem one_back' (c : UInt8) : (desc_Escape.one c = [c] ∧ c ≠ 37) ∨ (∃ a b, desc_Escape.one c = [37, a, b] ∧ desc_plainly.val a b = c) := by
  have h := one_back ⟨c.toNat, c.toNat_lt⟩
  simpa using h
theorem one_good (c : UInt8) : ∀ b ∈ desc_Escape.one c, b.toNat ≠ 44 ∧ b.toNat ≠ 61 ∧ b.toNat ≠ 124 ∧ 32 < b.toNat ∧ b.toNat ≤ 126 := by
  have h : ∀ n : Fin 256, ∀ b ∈ desc_Escape.one (UInt8.ofNat n.val), b.toNat ≠ 44 ∧ b.toNat ≠ 61 ∧ b.toNat ≠ 124 ∧ 32 < b.toNat ∧ b.toNat ≤ 126 := by decide +kernel
  have := h ⟨c.toNat, c.toNat_lt⟩
  simpa using this
theorem all_cons (c : UInt8) (l : List UInt8) : desc_Escape.all (c :: l) = desc_Escape.one c ++ desc_Escape.all l := rfl
theorem all_good (l : List UInt8) : ∀ b ∈ desc_Escape.all l, b.toNat ≠ 44 ∧ b.toNat ≠ 61 ∧ b.toNat ≠ 124 ∧ 32 < b.toNat ∧ b.toNat ≤ 126 := by
  intro b hb
  obtain ⟨c, _, hc⟩ := List.mem_flatMap.1 hb
  exact one_good c b hc
/-- A text escaped, made plain, is that text. -/
theorem un (l : List UInt8) : desc_plainly.all (desc_Escape.all l) = l := by
  induction l with
  | nil => exact desc_plainly.all_nil
  | cons c l ih =>
    rw [all_cons]
    rcases one_back' c with ⟨h1, h2⟩ | ⟨a, b, h1, h2⟩
    · rw [h1]
      show desc_plainly.all (c :: desc_Escape.all l) = _
      rw [desc_plainly.all_plain c _ (fun h => h2 h.1), ih]
    · rw [h1]
      show desc_plainly.all (37 :: a :: b :: desc_Escape.all l) = _
      rw [desc_plainly.all_esc, ih, h2]
theorem esc_eq (a b : List UInt8) : (desc_Escape.all a = desc_Escape.all b) ↔ a = b := ⟨fun h => by rw [← un a, h, un], fun h => by rw [h]⟩
def nm (s : ByteArray) : Bool := (desc_Name.f (s.size + 2) s).getD false
theorem nm_same (s : ByteArray) (hn : s.size ≤ 9000000000000000000) : (nm s = true → s.size ≤ 64) ∧ ∀ k, s.size + 1 < k → turncockref1_Name.f k s = some (nm s) ∧ desc_Name.f k s = some (nm s) := by
  obtain ⟨b, h1, h2⟩ := name_same s hn
  have e : nm s = b := by unfold nm; rw [(h2 (s.size + 2) (by omega)).2]; rfl
  rw [e]; exact ⟨h1, h2⟩
theorem nm_ev (s : ByteArray) (hn : s.size ≤ 9000000000000000000) : Ev (fun k => desc_Name.f k s) (nm s) := ⟨s.size + 2, fun k hk => ((nm_same s hn).2 k (by omega)).2⟩
theorem rnm_ev (s : ByteArray) (hn : s.size ≤ 9000000000000000000) : Ev (fun k => turncockref1_Name.f k s) (nm s) := ⟨s.size + 2, fun k hk => ((nm_same s hn).2 k (by omega)).1⟩
def okE (x : S47) : Bool := nm x.f0 && decide (x.f1.size ≤ 128)
def ck (l : List S47) : Bool := decide (1 ≤ l.length) && decide (l.length ≤ 8) && l.all okE
theorem rd_at {l : List S47} {i : Nat} (h : i < l.length) : rd_T47 l (i : Int) = l[i] := by
  unfold rd_T47; rw [Int.toNat_natCast, List.getD_eq_getElem?_getD, List.getElem?_eq_getElem h]; rfl
theorem check_loop (l : List S47) (hl : l.length ≤ 9000000000000000000) (hx : ∀ x ∈ l, x.f0.size ≤ 9000000000000000000) (d : Nat) : ∀ i : Nat, i + d = l.length →
    Ev (fun k => desc_Check.l0 k l (l.length : Int) (i : Int)) (if (l.drop i).all okE = true then 0 else 1) := by
  induction d with
  | zero =>
    intro i hi
    refine Ev.step (f := fun _ => some 0) (fun k => ?_) ?_
    · simp only [desc_Check.l0]; rw [if_neg (by omega)]
    · rw [List.drop_eq_nil_of_le (by omega)]; exact Ev.now 0
  | succ d ih =>
    intro i hi
    have hlt : i < l.length := by omega
    refine Ev.step (f := fun k => (desc_Name.f k (l[i]).f0).bind fun t => if t = true then (if ((l[i]).f1.size : Int) > 128 then some 1 else desc_Check.l0 k l (l.length : Int) ((i + 1 : Nat) : Int)) else some 1) (fun k => ?_) ?_
    · simp only [desc_Check.l0]
      rw [if_pos (by omega), if_pos (by omega), if_pos (by omega), rd_at hlt, step1 hlt hl]
    · refine Ev.bind (nm_ev _ (hx _ (List.getElem_mem hlt))) ?_
      rw [List.drop_eq_getElem_cons hlt, List.all_cons]
      unfold okE
      by_cases h : nm (l[i]).f0 = true
      · by_cases h2 : ((l[i]).f1.size : Int) > 128
        · have h3 : ¬ (l[i]).f1.size ≤ 128 := by omega
          simp only [h, h2, h3, if_true, decide_false, Bool.and_false, Bool.false_and]
          exact Ev.now _
        · have h3 : (l[i]).f1.size ≤ 128 := by omega
          simp only [h, h2, h3, if_true, if_false, decide_true, Bool.and_true, Bool.true_and]
          exact ih (i + 1) (by omega)
      · simp only [Bool.not_eq_true] at h
        simp only [h, Bool.false_eq_true, if_false, Bool.false_and]
        exact Ev.now _
theorem check_ev (l : List S47) (hl : l.length ≤ 9000000000000000000) (hx : ∀ x ∈ l, x.f0.size ≤ 9000000000000000000) :
    Ev (fun k => desc_Check.f k l) (if ck l = true then 0 else 1) := by
  have hc := check_loop l hl hx l.length 0 (by omega)
  unfold desc_Check.f ck
  by_cases h1 : (l.length : Int) < 1
  · simp only [h1, if_true]
    refine Ev.step (f := fun _ => some 1) (fun k => by simp only [desc_Check.j0, if_true]) ?_
    rw [decide_eq_false (show ¬ 1 ≤ l.length by omega)]
    exact Ev.now 1
  · simp only [h1, if_false]
    rw [decide_eq_true (show 1 ≤ l.length by omega)]
    by_cases h2 : (l.length : Int) > 8
    · refine Ev.step (f := fun _ => some 1) (fun k => by simp only [desc_Check.j0, h2, decide_true, if_true]) ?_
      rw [decide_eq_false (show ¬ l.length ≤ 8 by omega)]
      exact Ev.now 1
    · refine Ev.step (f := fun k => desc_Check.l0 k l (l.length : Int) ((0 : Nat) : Int)) (fun k => by simp only [desc_Check.j0, h2, decide_false, Bool.false_eq_true, if_false]; rfl) ?_
      rw [decide_eq_true (show l.length ≤ 8 by omega), Bool.true_and, Bool.true_and]
      exact hc
theorem rcheck_loop (l : List S47) (hl : l.length ≤ 9000000000000000000) (hx : ∀ x ∈ l, x.f0.size ≤ 9000000000000000000) (d : Nat) : ∀ i : Nat, i + d = l.length →
    Ev (fun k => turncockref1_CheckDesc.l0 k (i : Int) l) ((l.drop i).all okE) := by
  induction d with
  | zero =>
    intro i hi
    refine Ev.step (f := fun _ => some true) (fun k => ?_) ?_
    · simp only [turncockref1_CheckDesc.l0]; rw [if_neg (by omega)]
    · rw [List.drop_eq_nil_of_le (by omega)]; exact Ev.now true
  | succ d ih =>
    intro i hi
    have hlt : i < l.length := by omega
    refine Ev.step (f := fun k => (turncockref1_Name.f k (l[i]).f0).bind fun t => if t = true then (if ((l[i]).f1.size : Int) > 128 then some false else turncockref1_CheckDesc.l0 k ((i + 1 : Nat) : Int) l) else some false) (fun k => ?_) ?_
    · simp only [turncockref1_CheckDesc.l0]
      rw [if_pos (by omega), if_pos (by omega), rd_at hlt, step1 hlt hl]
    · refine Ev.bind (rnm_ev _ (hx _ (List.getElem_mem hlt))) ?_
      rw [List.drop_eq_getElem_cons hlt, List.all_cons]
      unfold okE
      by_cases h : nm (l[i]).f0 = true
      · by_cases h2 : ((l[i]).f1.size : Int) > 128
        · have h3 : ¬ (l[i]).f1.size ≤ 128 := by omega
          simp only [h, h2, h3, if_true, decide_false, Bool.and_false, Bool.false_and]
          exact Ev.now _
        · have h3 : (l[i]).f1.size ≤ 128 := by omega
          simp only [h, h2, h3, if_true, if_false, decide_true, Bool.and_true, Bool.true_and]
          exact ih (i + 1) (by omega)
      · simp only [Bool.not_eq_true] at h
        simp only [h, Bool.false_eq_true, if_false, Bool.false_and]
        exact Ev.now _
theorem rcheck_ev (l : List S47) (hl : l.length ≤ 9000000000000000000) (hx : ∀ x ∈ l, x.f0.size ≤ 9000000000000000000) :
    Ev (fun k => turncockref1_CheckDesc.f k l) (ck l) := by
  have hc := rcheck_loop l hl hx l.length 0 (by omega)
  unfold turncockref1_CheckDesc.f ck
  by_cases h1 : (l.length : Int) < 1
  · simp only [h1, if_true]
    refine Ev.step (f := fun _ => some false) (fun k => by simp only [turncockref1_CheckDesc.j0, if_true]) ?_
    rw [decide_eq_false (show ¬ 1 ≤ l.length by omega)]
    exact Ev.now false
  · simp only [h1, if_false]
    rw [decide_eq_true (show 1 ≤ l.length by omega)]
    by_cases h2 : (l.length : Int) > 8
    · refine Ev.step (f := fun _ => some false) (fun k => by simp only [turncockref1_CheckDesc.j0, h2, decide_true, if_true]) ?_
      rw [decide_eq_false (show ¬ l.length ≤ 8 by omega)]
      exact Ev.now false
    · refine Ev.step (f := fun k => turncockref1_CheckDesc.l0 k ((0 : Nat) : Int) l) (fun k => by simp only [turncockref1_CheckDesc.j0, h2, decide_false, Bool.false_eq_true, if_false]; rfl) ?_
      rw [decide_eq_true (show l.length ≤ 8 by omega), Bool.true_and, Bool.true_and]
      exact hc
/-- What a descriptor that may be is bounded by. -/
theorem ck_size {l : List S47} (hx : ∀ x ∈ l, x.f0.size ≤ 9000000000000000000) (h : ck l = true) : 1 ≤ l.length ∧ l.length ≤ 8 ∧ ∀ x ∈ l, x.f0.size ≤ 64 ∧ x.f1.size ≤ 128 := by
  unfold ck at h
  simp only [Bool.and_eq_true, decide_eq_true_eq, List.all_eq_true] at h
  refine ⟨h.1.1, h.1.2, fun x hm => ?_⟩
  have h2 := h.2 x hm
  unfold okE at h2
  simp only [Bool.and_eq_true, decide_eq_true_eq] at h2
  exact ⟨(nm_same x.f0 (hx x hm)).1 h2.1, h2.2⟩
def bts (l : List UInt8) : ByteArray := ⟨l.toArray⟩
theorem bts_toList (l : List UInt8) : (bts l).toList = l := by rw [ByteArray.toList_eq]; rfl
theorem bts_data (l : List UInt8) : (bts l).data.toList = l := rfl
theorem bts_size (l : List UInt8) : (bts l).size = l.length := by simp [bts, ByteArray.size]
theorem bts_app (l m : List UInt8) : bts l ++ bts m = bts (l ++ m) := by
  apply ByteArray.ext
  simp [bts, ByteArray.data_append]
theorem bts_self (s : ByteArray) : bts s.data.toList = s := by cases s; rfl
theorem bts_inj {s : ByteArray} {l : List UInt8} (h : s.data.toList = l) : s = bts l := by rw [← h, bts_self]
def ent (x : S47) : List UInt8 := desc_Escape.all x.f0.data.toList ++ 61 :: desc_Escape.all x.f1.data.toList
def TT (l : List S47) : List UInt8 := l.flatMap fun y => 44 :: ent y
def T : List S47 → List UInt8
  | [] => []
  | x :: l => ent x ++ TT l
theorem T_join : ∀ l : List S47, Lib.join (l.map ent) [44] = T l
  | [] => rfl
  | [x] => by simp [Lib.join, T, TT, List.intercalate]
  | x :: y :: l => by
    have h := T_join (y :: l)
    unfold Lib.join at h ⊢
    rw [List.map_cons, List.map_cons] at *
    rw [show ([44] : List UInt8).intercalate (ent x :: ent y :: l.map ent) = ent x ++ ([44] ++ ([44] : List UInt8).intercalate (ent y :: l.map ent)) from by simp [List.intercalate, List.intersperse]]
    rw [h]
    simp [T, TT]
theorem ent_len {x : S47} (h : x.f0.size ≤ 64 ∧ x.f1.size ≤ 128) : (ent x).length ≤ 600 := by
  have h1 := desc_Escape.all_len x.f0.data.toList
  have h2 := desc_Escape.all_len x.f1.data.toList
  have e1 : x.f0.data.toList.length = x.f0.size := by simp
  have e2 : x.f1.data.toList.length = x.f1.size := by simp
  unfold ent; rw [List.length_append, List.length_cons]; omega
theorem TT_len : ∀ {l : List S47}, (∀ x ∈ l, x.f0.size ≤ 64 ∧ x.f1.size ≤ 128) → (TT l).length ≤ 601 * l.length
  | [], _ => by simp [TT]
  | x :: l, h => by
    have h1 := ent_len (h x (by simp))
    have h2 := TT_len (l := l) (fun y hy => h y (by simp [hy]))
    unfold TT at *
    rw [List.flatMap_cons, List.length_append, List.length_cons, List.length_cons]; omega
theorem T_len {l : List S47} (h : ∀ x ∈ l, x.f0.size ≤ 64 ∧ x.f1.size ≤ 128) : (T l).length ≤ 601 * l.length := by
  cases l with
  | nil => simp [T]
  | cons x l =>
    have h1 := ent_len (h x (by simp))
    have h2 := TT_len (l := l) (fun y hy => h y (by simp [hy]))
    unfold T; rw [List.length_append, List.length_cons]; omega
theorem esc_f (s : ByteArray) (h : s.size ≤ 1099511627776) : desc_Escape.f s = some (bts (desc_Escape.all s.data.toList)) := by unfold desc_Escape.f; rw [if_pos h]; rfl
theorem text_loop (l : List S47) (hl : l.length ≤ 8) (hx : ∀ x ∈ l, x.f0.size ≤ 64 ∧ x.f1.size ≤ 128) (d : Nat) : ∀ i : Nat, i + d = l.length →
    Ev (fun k => desc_Text.l0 k ((l.take i).map fun x => bts (ent x)) l (l.length : Int) (i : Int)) (bts (T l)) := by
  induction d with
  | zero =>
    intro i hi
    have hj : strings_Join.f ((l.take i).map fun x => bts (ent x)) ⟨#[44]⟩ = some (bts (T l)) := by
      rw [List.take_of_length_le (by omega)]
      have e : ((l.map fun x => bts (ent x)).map fun s => s.data.toList) = l.map ent := by rw [List.map_map]; rfl
      have hz := T_len hx
      unfold strings_Join.f
      rw [show (⟨#[44]⟩ : ByteArray).data.toList = [44] from rfl, e, T_join, if_pos ⟨by omega, by rw [List.length_map]; omega⟩]
      rfl
    refine Ev.step (f := fun _ => some (bts (T l))) (fun k => ?_) (Ev.now _)
    simp only [desc_Text.l0]; rw [if_neg (by omega), hj]; rfl
  | succ d ih =>
    intro i hi
    have hlt : i < l.length := by omega
    have hb := hx _ (List.getElem_mem hlt)
    have h1 := desc_Escape.all_len (l[i]).f0.data.toList
    have h2 := desc_Escape.all_len (l[i]).f1.data.toList
    have e1 : (l[i]).f0.data.toList.length = (l[i]).f0.size := by simp
    have e2 : (l[i]).f1.data.toList.length = (l[i]).f1.size := by simp
    refine Ev.step (f := fun k => desc_Text.l0 k ((l.take (i + 1)).map fun x => bts (ent x)) l (l.length : Int) ((i + 1 : Nat) : Int)) (fun k => ?_) (ih (i + 1) (by omega))
    simp only [desc_Text.l0]
    rw [if_pos (by omega), if_pos (by omega), if_pos (by omega), rd_at hlt, esc_f _ (by omega), esc_f _ (by omega)]
    simp only [Option.bind_some, bts_size]
    rw [if_pos (by omega), if_pos (by omega), if_pos (by rw [List.length_map, List.length_take]; omega), step1 hlt (by omega)]
    congr 1
    rw [List.take_succ_eq_append_getElem hlt, List.map_append]
    congr 1
    show [bts _ ++ bts [61] ++ bts _] = [bts _]
    rw [bts_app, bts_app]
    unfold ent; simp
theorem text_ev (l : List S47) (hl : l.length ≤ 9000000000000000000) (hx : ∀ x ∈ l, x.f0.size ≤ 9000000000000000000) :
    Ev (fun k => desc_Text.f k l) (bts (if ck l = true then T l else [])) := by
  unfold desc_Text.f
  refine Ev.bind (check_ev l hl hx) ?_
  cases h : ck l with
  | true =>
    have hs := ck_size hx h
    simp only [if_true]
    exact text_loop l hs.2.1 hs.2.2 l.length 0 (by omega)
  | false =>
    simp only [Bool.false_eq_true, if_false]
    exact Ev.now _
theorem Ev.uniq {α : Type} {g : Nat → Option α} {a b : α} (ha : Ev g a) (hb : Ev g b) : a = b := by
  obtain ⟨K, hK⟩ := ha
  obtain ⟨L, hL⟩ := hb
  have h1 := hK (K + L) (by omega)
  rw [hL (K + L) (by omega)] at h1
  exact (Option.some.inj h1).symm
theorem index_at (c : UInt8) : ∀ (a b : List UInt8), c ∉ a → Lib.index (a ++ c :: b) [c] = (a.length : Int)
  | [], b, _ => by unfold Lib.index; simp
  | x :: a, b, h => by
    have hx : ¬ c = x := fun e => h (by simp [e])
    have ih := index_at c a b (fun hm => h (by simp [hm]))
    show Lib.index (x :: (a ++ c :: b)) [c] = _
    unfold Lib.index
    rw [ih]
    have e1 : ((a.length : Int) == -1) = false := by rw [beq_eq_false_iff_ne]; omega
    simp [hx, e1]
theorem index_miss (c : UInt8) : ∀ (a : List UInt8), c ∉ a → Lib.index a [c] = -1
  | [], _ => rfl
  | x :: a, h => by
    have hx : ¬ c = x := fun e => h (by simp [e])
    have ih := index_miss c a (fun hm => h (by simp [hm]))
    unfold Lib.index
    rw [ih]
    simp [hx]
theorem cut_at (c : UInt8) (a b : List UInt8) (h : c ∉ a) : Lib.cut (a ++ c :: b) [c] = (a, b, true) := by
  unfold Lib.cut
  rw [index_at c a b h, if_pos (by omega)]
  simp
theorem cut_len (l sep : List UInt8) : (Lib.cut l sep).1.length ≤ l.length ∧ (Lib.cut l sep).2.1.length ≤ l.length := by
  unfold Lib.cut
  split
  · exact ⟨by rw [List.length_take]; omega, by rw [List.length_drop]; omega⟩
  · exact ⟨Nat.le_refl _, by simp⟩
theorem plainly_len : ∀ (n : Nat) (l : List UInt8), l.length ≤ n → (desc_plainly.all l).length ≤ l.length
  | _, [], _ => by rw [desc_plainly.all_nil]; exact Nat.le_refl _
  | 0, c :: t, h => by simp at h
  | n + 1, c :: t, h => by
    by_cases hc : c = 37 ∧ 2 ≤ t.length
    · obtain ⟨rfl, h2⟩ := hc
      match t, h2 with
      | a :: b :: t, _ =>
        rw [desc_plainly.all_esc, List.length_cons, List.length_cons, List.length_cons, List.length_cons]
        have := plainly_len n t (by simp at h; omega)
        omega
    · rw [desc_plainly.all_plain c t hc, List.length_cons, List.length_cons]
      have := plainly_len n t (by simp at h; omega)
      omega
theorem extract_size_le (s : ByteArray) (a b : Nat) : (s.extract a b).size ≤ s.size := by rw [ByteArray.size_extract]; omega
theorem split_size (sep : ByteArray) : ∀ (k : Nat) (s : ByteArray), ∀ p ∈ Lib.splitB sep 0 k s, p.size ≤ s.size
  | 0, s, p, hp => by rw [Lib.splitB_zero] at hp; simp at hp; rw [hp]; exact Nat.le_refl _
  | k + 1, s, p, hp => by
    unfold Lib.splitB at hp
    split at hp
    · simp at hp; rw [hp]; exact Nat.le_refl _
    · rcases List.mem_cons.1 hp with rfl | hp
      · exact extract_size_le _ _ _
      · exact Nat.le_trans (split_size sep k _ p hp) (extract_size_le _ _ _)
/-- A text put together of parts without commas falls into these parts. -/
theorem split_join : ∀ (ps : List (List UInt8)), (∀ p ∈ ps, 44 ∉ p) → ∀ (q : List UInt8), 44 ∉ q → ∀ s : ByteArray, s.data.toList = q ++ ps.flatMap (fun p => 44 :: p) →
    Lib.splitB ⟨#[44]⟩ 0 (Lib.countB s ⟨#[44]⟩) s = bts q :: ps.map bts
  | [], _, q, hq, s, hs => by
    have e : s.data.toList = q := by simpa using hs
    have hi : Lib.indexB s ⟨#[44]⟩ = -1 := by
      show Lib.index s.data.toList [44] = -1
      rw [e]; exact index_miss 44 q hq
    rw [Lib.splitB_miss _ _ _ _ hi, bts_inj e]; rfl
  | p :: ps, hp, q, hq, s, hs => by
    have e : s.data.toList = q ++ 44 :: (p ++ ps.flatMap (fun p => 44 :: p)) := by rw [hs]; simp
    have hi : Lib.indexB s ⟨#[44]⟩ = (q.length : Int) := by
      show Lib.index s.data.toList [44] = _
      rw [e]; exact index_at 44 q _ hq
    have hz : (⟨#[44]⟩ : ByteArray).size = 1 := rfl
    rw [Lib.countB_hit s ⟨#[44]⟩ q.length (by rw [hz]; omega) hi, Nat.add_comm 1, Lib.splitB_hit _ _ _ _ _ hi, hz]
    have e2 : (s.extract (q.length + 1) s.size).data.toList = p ++ ps.flatMap (fun p => 44 :: p) := by
      rw [Lib.extract_to_end, e]
      rw [show q ++ 44 :: (p ++ ps.flatMap (fun p => 44 :: p)) = (q ++ [44]) ++ (p ++ ps.flatMap (fun p => 44 :: p)) from by simp, List.drop_left' (by simp)]
    rw [split_join ps (fun x hx => hp x (by simp [hx])) p (hp p (by simp)) _ e2]
    have e3 : s.extract 0 (q.length + 0) = bts q := by
      apply bts_inj
      rw [Lib.extract_from_zero, e, Nat.add_zero, List.take_left' rfl]
    rw [e3]; rfl
theorem ent_no (x : S47) : 44 ∉ ent x := by
  unfold ent
  intro h
  rcases List.mem_append.1 h with h | h
  · exact (all_good _ _ h).1 rfl
  · rcases List.mem_cons.1 h with h | h
    · exact absurd h (by decide)
    · exact (all_good _ _ h).1 rfl
def PE (p : ByteArray) : S47 := ⟨bts (desc_plainly.all (Lib.cut p.data.toList [61]).1), bts (desc_plainly.all (Lib.cut p.data.toList [61]).2.1)⟩
theorem PE_ent (x : S47) : PE (bts (ent x)) = x := by
  unfold PE
  rw [bts_data]
  unfold ent
  rw [cut_at 61 _ _ (fun h => (all_good _ _ h).2.1 rfl)]
  simp only [un, bts_self]
theorem split_T (l : List S47) (hl : l ≠ []) (s : ByteArray) (hs : T l = s.data.toList) : (Lib.splitB ⟨#[44]⟩ 0 (Lib.countB s ⟨#[44]⟩) s).map PE = l := by
  cases l with
  | nil => exact absurd rfl hl
  | cons x l =>
    rw [split_join (l.map ent) (fun p hp => by obtain ⟨y, _, rfl⟩ := List.mem_map.1 hp; exact ent_no y) (ent x) (ent_no x) s (by rw [← hs]; unfold T TT; rw [List.flatMap_map])]
    rw [List.map_cons, PE_ent, List.map_map, List.map_map]
    congr 1
    have h : l.map ((PE ∘ bts) ∘ ent) = l.map id := List.map_congr_left (fun y _ => PE_ent y)
    rw [h, List.map_id]
def fin (s : ByteArray) (l : List S47) : List S47 × Bool := if ck l = true then (if T l = s.data.toList then (l, true) else ([], false)) else ([], false)
theorem rdB_at {l : List ByteArray} {i : Nat} (h : i < l.length) : rdOf ByteArray.empty l (i : Int) = l[i] := by
  unfold rdOf; rw [Int.toNat_natCast, List.getD_eq_getElem?_getD, List.getElem?_eq_getElem h]; rfl
theorem PE_size (p : ByteArray) : (PE p).f0.size ≤ p.size ∧ (PE p).f1.size ≤ p.size := by
  have h := cut_len p.data.toList [61]
  have e : p.data.toList.length = p.size := by simp
  have h1 := plainly_len _ (Lib.cut p.data.toList [61]).1 (Nat.le_refl _)
  have h2 := plainly_len _ (Lib.cut p.data.toList [61]).2.1 (Nat.le_refl _)
  unfold PE
  simp only [bts_size]
  omega
theorem fin_ev (s : ByteArray) (l : List S47) (hl : l.length ≤ 9000000000000000000) (hx : ∀ x ∈ l, x.f0.size ≤ 9000000000000000000) :
    Ev (fun k => (desc_Check.f k l).bind fun t129 => (if t129 = 0 then ((desc_Text.f k l).bind fun t130 => (if t130.toList = s.toList then (some (l, true)) else (some (([] : List (S47)), false)))) else (some (([] : List (S47)), false)))) (fin s l) := by
  refine Ev.bind (check_ev l hl hx) ?_
  unfold fin
  cases h : ck l with
  | false => simp only [Bool.false_eq_true, if_false]; exact Ev.now _
  | true =>
    simp only [if_true]
    refine Ev.bind (text_ev l hl hx) ?_
    simp only [h, if_true, bts_toList, ByteArray.toList_eq s]
    by_cases hT : T l = s.data.toList
    · simp only [hT, if_true]; exact Ev.now _
    · simp only [hT, if_false]; exact Ev.now _
theorem read_loop (s : ByteArray) (ps : List ByteArray) (hl : ps.length ≤ 1000000000) (hp : ∀ p ∈ ps, p.size ≤ 1000000000) (d : Nat) : ∀ i : Nat, i + d = ps.length →
    Ev (fun k => desc_Read.l0 k s ps (ps.length : Int) (i : Int) ((ps.take i).map PE)) (fin s (ps.map PE)) := by
  induction d with
  | zero =>
    intro i hi
    rw [List.take_of_length_le (by omega)]
    refine Ev.step (fun k => ?_) (fin_ev s (ps.map PE) (by rw [List.length_map]; omega) ?_)
    · simp only [desc_Read.l0]; rw [if_neg (by omega)]
    · intro x hx
      obtain ⟨p, hm, rfl⟩ := List.mem_map.1 hx
      have := hp p hm
      have := (PE_size p).1
      omega
  | succ d ih =>
    intro i hi
    have hlt : i < ps.length := by omega
    have hb := hp _ (List.getElem_mem hlt)
    have hc := cut_len (ps[i]).data.toList [61]
    have e : (ps[i]).data.toList.length = (ps[i]).size := by simp
    refine Ev.step (f := fun k => desc_Read.l0 k s ps (ps.length : Int) ((i + 1 : Nat) : Int) ((ps.take (i + 1)).map PE)) (fun k => ?_) (ih (i + 1) (by omega))
    simp only [desc_Read.l0]
    have c1 : strings_Cut.f ps[i] ⟨#[61]⟩ = some (bts (Lib.cut (ps[i]).data.toList [61]).1, bts (Lib.cut (ps[i]).data.toList [61]).2.1, (Lib.cut (ps[i]).data.toList [61]).2.2) := by
      unfold strings_Cut.f; rw [if_pos ⟨rfl, by omega⟩]; rfl
    have c2 : ∀ l : List UInt8, l.length ≤ 1000000000 → desc_plainly.f (bts l) = some (bts (desc_plainly.all l)) := fun l h => by
      unfold desc_plainly.f; rw [if_pos (by rw [bts_size]; omega)]; rfl
    rw [if_pos (by omega), if_pos (by omega), if_pos (by omega), rdB_at hlt, c1]
    simp only [Option.bind_some]
    rw [c2 _ (by omega), c2 _ (by omega)]
    simp only [Option.bind_some]
    rw [if_pos (by rw [List.length_map, List.length_take]; omega), step1 hlt (by omega)]
    congr 1
    rw [List.take_succ_eq_append_getElem hlt, List.map_append]
    rfl
theorem read_ev (s : ByteArray) (hn : s.size ≤ 100000000) : Ev (fun k => desc_Read.f k s) (fin s ((Lib.splitB ⟨#[44]⟩ 0 (Lib.countB s ⟨#[44]⟩) s).map PE)) := by
  have h1 := Lib.countB_le ⟨#[44]⟩ (by decide) s.size s (Nat.le_refl _)
  have h2 := Lib.splitB_length_le ⟨#[44]⟩ 0 (Lib.countB s ⟨#[44]⟩) s
  have hf : strings_Split.f s ⟨#[44]⟩ = some (Lib.splitB ⟨#[44]⟩ 0 (Lib.countB s ⟨#[44]⟩) s) := by
    unfold strings_Split.f; rw [if_pos ⟨rfl, by omega⟩]
  unfold desc_Read.f
  rw [hf]
  simp only [Option.bind_some]
  exact read_loop s _ (by omega) (fun p hp => by have := split_size _ _ _ p hp; omega) _ 0 (Nat.zero_add _)
theorem awake_ev : ∃ K, ∀ k, K ≤ k → turncocklaw6_awake.f k = some true := Ev.of turncocklaw6_awake.mono (k := 14) (by decide +kernel)
theorem mn_size (n : Nat) (h : n ≤ 9223372036854775807) : 0 ≤ mn (n : Int) 3001 ∧ mn (n : Int) 3001 ≤ 3001 ∧ (mn (n : Int) 3001 ≤ 3000 → n ≤ 3000) := by
  unfold mn; split <;> omega
theorem heavy_loop (l : List S47) (hl : l.length ≤ 9000000000000000000) (d : Nat) : ∀ i : Nat, i + d = l.length → ∀ n : Int, 0 ≤ n → n ≤ 9223372036854775807 →
    ∃ b, Ev (fun k => turncocklaw6_heavy.l0 k n (i : Int) l) b ∧ (b = false → n ≤ 3000 ∧ ∀ x ∈ l.drop i, x.f0.size ≤ 3000 ∧ x.f1.size ≤ 3000) := by
  induction d with
  | zero =>
    intro i hi n h0 hn
    refine ⟨decide (n > 3000), Ev.step (f := fun _ => some (decide (n > 3000))) (fun k => ?_) (Ev.now _), fun h => ⟨?_, ?_⟩⟩
    · simp only [turncocklaw6_heavy.l0]; rw [if_neg (by omega)]
    · have := of_decide_eq_false h; omega
    · rw [List.drop_eq_nil_of_le (by omega)]; intro x hx; simp at hx
  | succ d ih =>
    intro i hi n h0 hn
    have hlt : i < l.length := by omega
    by_cases hb : n ≤ 3000
    · have hx : ∀ x : ByteArray, 0 ≤ mn (x.size : Int) 3001 ∧ mn (x.size : Int) 3001 ≤ 3001 ∧ (mn (x.size : Int) 3001 ≤ 3000 → x.size ≤ 3000) := by
        intro x; unfold mn; split <;> omega
      have h1 := hx (l[i]).f0
      have h2 := hx (l[i]).f1
      generalize hm1 : mn ((l[i]).f0.size : Int) 3001 = m1 at h1
      generalize hm2 : mn ((l[i]).f1.size : Int) 3001 = m2 at h2
      obtain ⟨b, hbv, hs⟩ := ih (i + 1) (by omega) (n + m1 + m2) (by omega) (by omega)
      refine ⟨b, Ev.step (fun k => ?_) hbv, fun h => ⟨hb, ?_⟩⟩
      · have w1 : wrap64 (n + m1) = n + m1 := by unfold wrap64; omega
        have w2 : wrap64 (n + m1 + m2) = n + m1 + m2 := by unfold wrap64; omega
        simp only [turncocklaw6_heavy.l0]
        rw [if_pos (by omega), if_pos hb, if_pos (by omega), rd_at hlt, hm1, hm2, w1, w2, step1 hlt hl]
      · have h3 := hs h
        rw [List.drop_eq_getElem_cons hlt]
        intro x hx'
        rcases List.mem_cons.1 hx' with rfl | hx'
        · exact ⟨h1.2.2 (by omega), h2.2.2 (by omega)⟩
        · exact h3.2 x hx'
    · refine ⟨true, Ev.step (f := fun _ => some true) (fun k => ?_) (Ev.now _), fun h => by cases h⟩
      simp only [turncocklaw6_heavy.l0]
      rw [if_pos (by omega), if_neg hb, decide_eq_true (by omega)]
theorem heavy_ev (l : List S47) (hl : l.length ≤ 9000000000000000000) : ∃ b, Ev (fun k => turncocklaw6_heavy.f k l) b ∧ (b = false → l.length ≤ 3000 ∧ ∀ x ∈ l, x.f0.size ≤ 3000 ∧ x.f1.size ≤ 3000) := by
  obtain ⟨b, h1, h2⟩ := heavy_loop l hl l.length 0 (Nat.zero_add _) (l.length : Int) (by omega) (by omega)
  refine ⟨b, h1, fun h => ?_⟩
  have h3 := h2 h
  rw [List.drop_zero] at h3
  exact ⟨by omega, h3.2⟩
theorem heavy_big (l : List S47) (hl : 3000 < l.length) : Ev (fun k => turncocklaw6_heavy.f k l) true := by
  refine Ev.step (f := fun _ => some true) (fun k => ?_) (Ev.now _)
  unfold turncocklaw6_heavy.f
  simp only [turncocklaw6_heavy.l0]
  rw [if_pos (by omega), if_neg (by omega), decide_eq_true (by omega)]
/-- Whatever the length. -/
theorem heavy_any (l : List S47) : ∃ b, Ev (fun k => turncocklaw6_heavy.f k l) b ∧ (b = false → l.length ≤ 3000 ∧ ∀ x ∈ l, x.f0.size ≤ 3000 ∧ x.f1.size ≤ 3000) := by
  by_cases h : 3000 < l.length
  · exact ⟨true, heavy_big l h, fun e => by cases e⟩
  · exact heavy_ev l (by omega)
theorem awake_ev' : Ev (fun k => turncocklaw6_awake.f k) true := by
  obtain ⟨K, hK⟩ := awake_ev
  exact ⟨K, hK⟩
theorem awake_ev2 : Ev (fun k => (turncocklaw6_awake.f k).bind fun t => some t) true := Ev.bind awake_ev' (Ev.now _)
theorem S47_ext {x y : S47} (h0 : x.f0.toList = y.f0.toList) (h1 : x.f1.toList = y.f1.toList) : x = y := by
  obtain ⟨a, b⟩ := x
  obtain ⟨c, d⟩ := y
  simp only [ByteArray.toList_eq] at h0 h1
  rw [bts_inj h0, bts_inj h1, bts_self, bts_self]
theorem parts_ne (x y : S47) : ((!((x.f0.toList) == (y.f0.toList)) || (!((x.f1.toList) == (y.f1.toList)))) = true) ↔ ¬ x = y := by
  constructor
  · intro h e; subst e; simp at h
  · intro h
    by_cases h0 : x.f0.toList = y.f0.toList
    · by_cases h1 : x.f1.toList = y.f1.toList
      · exact absurd (S47_ext h0 h1) h
      · simp [h1]
    · simp [h0]
noncomputable def sm (a b : List S47) : Bool := @decide (a = b) (Classical.propDecidable _)
theorem sm_true {a b : List S47} : sm a b = true ↔ a = b := by unfold sm; exact @decide_eq_true_iff _ (Classical.propDecidable _)
theorem sm_eq {a b : List S47} {c : Bool} (h : c = true ↔ a = b) : sm a b = c := by
  rw [Bool.eq_iff_iff, sm_true, h]
theorem sm_cons {x y : S47} {a b : List S47} (h : x = y) : sm (x :: a) (y :: b) = sm a b := sm_eq (by rw [sm_true]; subst h; simp)
theorem sm_ne {x y : S47} {a b : List S47} (h : ¬ x = y) : sm (x :: a) (y :: b) = false := sm_eq (by simp only [Bool.false_eq_true, false_iff]; intro e; exact h (List.cons.inj e).1)
theorem rsame_loop (a b : List S47) (hab : a.length = b.length) (hl : a.length ≤ 9000000000000000000) (d : Nat) : ∀ i : Nat, i + d = a.length → Ev (fun k => turncockref1_SameDesc.l0 k (i : Int) a b) (sm (a.drop i) (b.drop i)) := by
  induction d with
  | zero =>
    intro i hi
    rw [List.drop_eq_nil_of_le (by omega), List.drop_eq_nil_of_le (by omega), sm_true.2 rfl]
    refine Ev.step (f := fun _ => some true) (fun k => ?_) (Ev.now _)
    simp only [turncockref1_SameDesc.l0]; rw [if_neg (by omega)]
  | succ d ih =>
    intro i hi
    have h1 : i < a.length := by omega
    have h2 : i < b.length := by omega
    rw [List.drop_eq_getElem_cons h1, List.drop_eq_getElem_cons h2]
    by_cases he : a[i] = b[i]
    · have e : sm (a[i] :: a.drop (i + 1)) (b[i] :: b.drop (i + 1)) = sm (a.drop (i + 1)) (b.drop (i + 1)) := sm_cons he
      rw [e]
      refine Ev.step (f := fun k => turncockref1_SameDesc.l0 k ((i + 1 : Nat) : Int) a b) (fun k => ?_) (ih (i + 1) (by omega))
      simp only [turncockref1_SameDesc.l0]
      rw [if_pos (by omega), if_pos (by omega), if_pos (by omega), rd_at h1, rd_at h2, if_neg (fun h => (parts_ne _ _).1 h he), step1 h1 hl]
    · have e : sm (a[i] :: a.drop (i + 1)) (b[i] :: b.drop (i + 1)) = false := sm_ne he
      rw [e]
      refine Ev.step (f := fun _ => some false) (fun k => ?_) (Ev.now _)
      simp only [turncockref1_SameDesc.l0]
      rw [if_pos (by omega), if_pos (by omega), if_pos (by omega), rd_at h1, rd_at h2, if_pos ((parts_ne _ _).2 he)]
theorem rsame_ev (a b : List S47) (ha : a.length ≤ 9000000000000000000) : Ev (fun k => turncockref1_SameDesc.f k a b) (sm a b) := by
  unfold turncockref1_SameDesc.f
  by_cases h : (a.length : Int) = (b.length : Int)
  · simp only [h, if_true]
    exact rsame_loop a b (by omega) ha a.length 0 (Nat.zero_add _)
  · simp only [h, if_false]
    rw [sm_eq (c := false) (by simp only [Bool.false_eq_true, false_iff]; intro e; rw [e] at h; exact h rfl)]
    exact Ev.now _
theorem same_loop2 (a b : List S47) (hab : a.length = b.length) (hl : a.length ≤ 9000000000000000000) (d : Nat) : ∀ i : Nat, i + d = a.length → Ev (fun k => api_Entry.l0 k a b (a.length : Int) (i : Int)) (sm (a.drop i) (b.drop i)) := by
  induction d with
  | zero =>
    intro i hi
    rw [List.drop_eq_nil_of_le (by omega), List.drop_eq_nil_of_le (by omega), sm_true.2 rfl]
    refine Ev.step (f := fun _ => some true) (fun k => ?_) (Ev.now _)
    simp only [api_Entry.l0]; rw [if_neg (by omega)]
  | succ d ih =>
    intro i hi
    have h1 : i < a.length := by omega
    have h2 : i < b.length := by omega
    rw [List.drop_eq_getElem_cons h1, List.drop_eq_getElem_cons h2]
    by_cases he : a[i] = b[i]
    · have e : sm (a[i] :: a.drop (i + 1)) (b[i] :: b.drop (i + 1)) = sm (a.drop (i + 1)) (b.drop (i + 1)) := sm_cons he
      rw [e]
      refine Ev.step (f := fun k => api_Entry.l0 k a b (a.length : Int) ((i + 1 : Nat) : Int)) (fun k => ?_) (ih (i + 1) (by omega))
      simp only [api_Entry.l0]
      rw [if_pos (by omega), if_pos (by omega), if_pos (by omega), if_pos (by omega), rd_at h1, rd_at h2, if_neg (fun h => (parts_ne _ _).1 h he), step1 h1 hl]
    · have e : sm (a[i] :: a.drop (i + 1)) (b[i] :: b.drop (i + 1)) = false := sm_ne he
      rw [e]
      refine Ev.step (f := fun _ => some false) (fun k => ?_) (Ev.now _)
      simp only [api_Entry.l0]
      rw [if_pos (by omega), if_pos (by omega), if_pos (by omega), if_pos (by omega), rd_at h1, rd_at h2, if_pos ((parts_ne _ _).2 he)]
theorem same2_ev (a b : List S47) (ha : a.length ≤ 9000000000000000000) : Ev (fun k => desc_Same.f k a b) (sm a b) := by
  unfold desc_Same.f
  have h0 : Ev (fun k => api_Entry.f k a b) (sm a b) := by
    unfold api_Entry.f
    by_cases h : (a.length : Int) = (b.length : Int)
    · simp only [h, if_true]
      have := same_loop2 a b (by omega) ha a.length 0 (Nat.zero_add _)
      rw [h] at this
      exact this
    · simp only [h, if_false]
      rw [sm_eq (c := false) (by simp only [Bool.false_eq_true, false_iff]; intro e; rw [e] at h; exact h rfl)]
      exact Ev.now _
  exact Ev.bind h0 (Ev.now _)
theorem T_inj {a b : List S47} (ha : ck a = true) (hb : ck b = true) (h : T a = T b) : a = b := by
  have na : a ≠ [] := fun e => by rw [e] at ha; exact absurd ha (by decide)
  have nb : b ≠ [] := fun e => by rw [e] at hb; exact absurd hb (by decide)
  have h1 := split_T a na (bts (T a)) rfl
  have h2 := split_T b nb (bts (T a)) h.symm
  exact h1.symm.trans h2
def DescApartPure : Prop := ∀ l m : List S47, ∃ k, turncocklaw6_DescApart.f k l m = some true
theorem apart_awake (l m : List S47) : Ev (fun k => turncocklaw6_DescApart.j0 k true l m) true :=
  Ev.step (fun k => by simp only [turncocklaw6_DescApart.j0, if_true]) awake_ev2
theorem DescApart : DescApartPure := by
  intro a b
  suffices h : Ev (fun k => turncocklaw6_DescApart.f k a b) true from h.rounds
  unfold turncocklaw6_DescApart.f
  obtain ⟨u, hu, hs⟩ := heavy_any a
  refine Ev.bind hu ?_
  cases u with
  | true => simp only [if_true]; exact apart_awake a b
  | false =>
    obtain ⟨h1, h2⟩ := hs rfl
    have hl : a.length ≤ 9000000000000000000 := by omega
    have hx : ∀ x ∈ a, x.f0.size ≤ 9000000000000000000 := fun x hx => by have := (h2 x hx).1; omega
    simp only [Bool.false_eq_true, if_false]
    obtain ⟨v, hv, hs2⟩ := heavy_any b
    refine Ev.bind hv ?_
    cases v with
    | true => exact apart_awake a b
    | false =>
      obtain ⟨h3, h4⟩ := hs2 rfl
      have hl2 : b.length ≤ 9000000000000000000 := by omega
      have hx2 : ∀ x ∈ b, x.f0.size ≤ 9000000000000000000 := fun x hx => by have := (h4 x hx).1; omega
      refine Ev.step (f := fun k => (desc_Same.f k a b).bind fun t174 => ((turncockref1_SameDesc.f k a b).bind fun t175 => (if (t174 != t175) = true then (some false) else ((turncockref1_CheckDesc.f k a).bind fun t176 => (if t176 = true then ((turncockref1_CheckDesc.f k b).bind fun t177 => (turncocklaw6_DescApart.j1 k (!t177) a b)) else (turncocklaw6_DescApart.j1 k true a b)))))) (fun k => by simp only [turncocklaw6_DescApart.j0, Bool.false_eq_true, if_false]) ?_
      refine Ev.bind (same2_ev a b hl) ?_
      refine Ev.bind (rsame_ev a b hl) ?_
      simp only [bne_self_eq_false, Bool.false_eq_true, if_false]
      refine Ev.bind (rcheck_ev a hl hx) ?_
      have hj : Ev (fun k => turncocklaw6_DescApart.j1 k true a b) true := Ev.step (fun k => by simp only [turncocklaw6_DescApart.j1, if_true]) awake_ev2
      cases ca : ck a with
      | false => simp only [Bool.false_eq_true, if_false]; exact hj
      | true =>
        simp only [if_true]
        refine Ev.bind (rcheck_ev b hl2 hx2) ?_
        cases cb : ck b with
        | false => exact hj
        | true =>
          refine Ev.step (f := fun k => (desc_Text.f k a).bind fun t179 => ((desc_Text.f k b).bind fun t180 => ((turncockref1_SameDesc.f k a b).bind fun t181 => (if ((t179.toList == t180.toList) == t181) = true then ((turncocklaw6_awake.f k).bind fun t182 => (some t182)) else (some false))))) (fun k => by simp only [turncocklaw6_DescApart.j1, Bool.not_true, Bool.false_eq_true, if_false]) ?_
          refine Ev.bind (text_ev a hl hx) ?_
          refine Ev.bind (text_ev b hl2 hx2) ?_
          refine Ev.bind (rsame_ev a b hl) ?_
          have he : (T a == T b) = sm a b := (sm_eq (by rw [beq_iff_eq]; exact ⟨T_inj ca cb, fun e => by rw [e]⟩)).symm
          simp only [ca, cb, if_true, bts_toList, he, BEq.rfl]
          exact awake_ev2

end Go.Proofs.YtpemmaffbcbcjaaDoor.Pure
