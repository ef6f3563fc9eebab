/- KeyMakes: any path's, descriptor's, unit's and time's key, and its end, or that there is none, are as the document says; it is parsed back; the tables of Go's library that the row lists are tied by the card. -/
import Derived.Test.YtpemmaffbcbcjaaDoorPKeyMakesx9
import Derived.Test.YtpemmaffbcbcjaaDoorDec
set_option linter.unusedSimpArgs false
set_option linter.unusedVariables false
namespace Go.Proofs.YtpemmaffbcbcjaaDoor.Pure
open Go.RowKit Go.Proofs.YtpemmaffbcbcjaaDoor.PKeyMakes Go.Proofs.YtpemmaffbcbcjaaDoorW.PrintWords Go.Proofs.YtpemmaffbcbcjaaDoorW.PrintLast Go.Proofs.YtpemmaffbcbcjaaDoorW.PrintMore
open Go.Proofs.YtpemmaffbcbcjaaDoor

theorem step1 {i n : Nat} (h : i < n) (hn : n ≤ 9000000000000000000) : wrap64 ((i : Int) + 1) = ((i + 1 : Nat) : Int) := by unfold wrap64; omega
theorem name_both (s : ByteArray) (hn : s.size ≤ 9000000000000000000) (d : Nat) : ∀ i : Nat, i + d = s.size →
    ∃ b : Bool, ∀ k, d < k → turncockref1_Name.l0 k s (i : Int) = some b ∧ desc_Name.l0 k s (s.size : Int) (i : Int) = some (b && (decide (1 ≤ s.size) && decide (s.size ≤ 64))) := by
  induction d with
  | zero =>
    intro i hi
    refine ⟨true, fun k hk => ?_⟩
    obtain ⟨k, rfl⟩ : ∃ m, k = m + 1 := ⟨k - 1, by omega⟩
    simp only [turncockref1_Name.l0, desc_Name.l0]
    rw [if_neg (by omega), if_neg (by omega)]
    refine ⟨rfl, ?_⟩
    by_cases h : (s.size : Int) ≥ 1
    · rw [if_pos h, decide_eq_true (show 1 ≤ s.size by omega), Bool.true_and, Bool.true_and]
      congr 1; rw [decide_eq_decide]; omega
    · rw [if_neg h, decide_eq_false (show ¬ 1 ≤ s.size by omega)]; rfl
  | succ d ih =>
    intro i hi
    by_cases h1 : bt s (i : Int) < 33
    · refine ⟨false, fun k hk => ?_⟩
      obtain ⟨k, rfl⟩ : ∃ m, k = m + 1 := ⟨k - 1, by omega⟩
      simp only [turncockref1_Name.l0, desc_Name.l0]
      rw [if_pos (by omega), if_pos (by omega), if_pos h1, if_pos (by omega), if_pos (by omega), if_pos (by omega), if_pos h1]
      exact ⟨rfl, rfl⟩
    · by_cases h2 : bt s (i : Int) > 126
      · refine ⟨false, fun k hk => ?_⟩
        obtain ⟨k, rfl⟩ : ∃ m, k = m + 1 := ⟨k - 1, by omega⟩
        simp only [turncockref1_Name.l0, desc_Name.l0]
        rw [if_pos (by omega), if_pos (by omega), if_neg h1, if_pos h2, if_pos (by omega), if_pos (by omega), if_pos (by omega), if_neg h1, if_pos h2]
        exact ⟨rfl, rfl⟩
      · obtain ⟨b, hb⟩ := ih (i + 1) (by omega)
        refine ⟨b, fun k hk => ?_⟩
        obtain ⟨k, rfl⟩ : ∃ m, k = m + 1 := ⟨k - 1, by omega⟩
        simp only [turncockref1_Name.l0, desc_Name.l0]
        rw [if_pos (by omega), if_pos (by omega), if_neg h1, if_neg h2, if_pos (by omega), if_pos (by omega), if_pos (by omega), if_neg h1, if_neg h2, step1 (show i < s.size by omega) hn]
        exact hb k (by omega)
/-- Is a text a name: both functions tell the same. -/
theorem name_same (s : ByteArray) (hn : s.size ≤ 9000000000000000000) : ∃ b : Bool, (b = true → s.size ≤ 64) ∧ ∀ k, s.size + 1 < k → turncockref1_Name.f k s = some b ∧ desc_Name.f k s = some b := by
  obtain ⟨b, hb⟩ := name_both s hn s.size 0 (by omega)
  refine ⟨b && (decide (1 ≤ s.size) && decide (s.size ≤ 64)), fun h => by simp at h; omega, fun k hk => ⟨?_, (hb k (by omega)).2⟩⟩
  obtain ⟨k, rfl⟩ : ∃ m, k = m + 1 := ⟨k - 1, by omega⟩
  unfold turncockref1_Name.f
  by_cases h1 : (s.size : Int) < 1
  · rw [if_pos h1]
    simp only [turncockref1_Name.j0]
    rw [decide_eq_false (show ¬ 1 ≤ s.size by omega)]
    simp
  · rw [if_neg h1]
    by_cases h2 : (s.size : Int) > 64
    · rw [decide_eq_true h2]
      simp only [turncockref1_Name.j0]
      rw [decide_eq_false (show ¬ s.size ≤ 64 by omega)]
      simp
    · rw [decide_eq_false h2]
      simp only [turncockref1_Name.j0]
      rw [decide_eq_true (show 1 ≤ s.size by omega), decide_eq_true (show s.size ≤ 64 by omega), if_neg (by decide)]
      have := (hb k (by omega)).1
      simp only [Bool.and_true]
      exact this
theorem one_back : ∀ n : Fin 256, (desc_Escape.one (UInt8.ofNat n.val) = [UInt8.ofNat n.val] ∧ UInt8.ofNat n.val ≠ 37) ∨ (∃ a b, desc_Escape.one (UInt8.ofNat n.val) = [37, a, b] ∧ desc_plainly.val a b = UInt8.ofNat n.val) := by
  have h : ∀ n : Fin 256, (desc_Escape.one (UInt8.ofNat n.val) = [UInt8.ofNat n.val] ∧ UInt8.ofNat n.val ≠ 37) ∨ (desc_Escape.one (UInt8.ofNat n.val) = [37, desc_Escape.HEX.getD (n.val / 16) 0, desc_Escape.HEX.getD (n.val % 16) 0] ∧ desc_plainly.val (desc_Escape.HEX.getD (n.val / 16) 0) (desc_Escape.HEX.getD (n.val % 16) 0) = UInt8.ofNat n.val) := by decide +kernel
  intro n
  rcases h n with h | ⟨h1, h2⟩
  · exact .inl h
  · exact .inr ⟨_, _, h1, h2⟩
theorem one_back' (c : UInt8) : (desc_Escape.one c = [c] ∧ c ≠ 37) ∨ (∃ a b, desc_Escape.one c = [37, a, b] ∧ desc_plainly.val a b = c) := by
  have h := one_back ⟨c.toNat, c.toNat_lt⟩
  simpa using h
theorem one_good (c : UInt8) : ∀ b ∈ desc_Escape.one c, b.toNat ≠ 44 ∧ b.toNat ≠ 61 ∧ b.toNat ≠ 124 ∧ 32 < b.toNat ∧ b.toNat ≤ 126 := by
  have h : ∀ n : Fin 256, ∀ b ∈ desc_Escape.one (UInt8.ofNat n.val), b.toNat ≠ 44 ∧ b.toNat ≠ 61 ∧ b.toNat ≠ 124 ∧ 32 < b.toNat ∧ b.toNat ≤ 126 := by decide +kernel
  have := h ⟨c.toNat, c.toNat_lt⟩
  simpa using this
theorem all_cons (c : UInt8) (l : List UInt8) : desc_Escape.all (c :: l) = desc_Escape.one c ++ desc_Escape.all l := rfl
theorem all_good (l : List UInt8) : ∀ b ∈ desc_Escape.all l, b.toNat ≠ 44 ∧ b.toNat ≠ 61 ∧ b.toNat ≠ 124 ∧ 32 < b.toNat ∧ b.toNat ≤ 126 := by
  intro b hb
  obtain ⟨c, _, hc⟩ := List.mem_flatMap.1 hb
  exact one_good c b hc
/-- A text escaped, made plain, is that text. -/
theorem un (l : List UInt8) : desc_plainly.all (desc_Escape.all l) = l := by
  induction l with
  | nil => exact desc_plainly.all_nil
  | cons c l ih =>
    rw [all_cons]
    rcases one_back' c with ⟨h1, h2⟩ | ⟨a, b, h1, h2⟩
    · rw [h1]
      show desc_plainly.all (c :: desc_Escape.all l) = _
      rw [desc_plainly.all_plain c _ (fun h => h2 h.1), ih]
    · rw [h1]
      show desc_plainly.all (37 :: a :: b :: desc_Escape.all l) = _
      rw [desc_plainly.all_esc, ih, h2]
theorem esc_eq (a b : List UInt8) : (desc_Escape.all a = desc_Escape.all b) ↔ a = b := ⟨fun h => by rw [← un a, h, un], fun h => by rw [h]⟩
def nm (s : ByteArray) : Bool := (desc_Name.f (s.size + 2) s).getD false
theorem nm_same (s : ByteArray) (hn : s.size ≤ 9000000000000000000) : (nm s = true → s.size ≤ 64) ∧ ∀ k, s.size + 1 < k → turncockref1_Name.f k s = some (nm s) ∧ desc_Name.f k s = some (nm s) := by
  obtain ⟨b, h1, h2⟩ := name_same s hn
  have e : nm s = b := by unfold nm; rw [(h2 (s.size + 2) (by omega)).2]; rfl
  rw [e]; exact ⟨h1, h2⟩
theorem nm_ev (s : ByteArray) (hn : s.size ≤ 9000000000000000000) : Ev (fun k => desc_Name.f k s) (nm s) := ⟨s.size + 2, fun k hk => ((nm_same s hn).2 k (by omega)).2⟩
theorem rnm_ev (s : ByteArray) (hn : s.size ≤ 9000000000000000000) : Ev (fun k => turncockref1_Name.f k s) (nm s) := ⟨s.size + 2, fun k hk => ((nm_same s hn).2 k (by omega)).1⟩
def okE (x : S47) : Bool := nm x.f0 && decide (x.f1.size ≤ 128)
def ck (l : List S47) : Bool := decide (1 ≤ l.length) && decide (l.length ≤ 8) && l.all okE
theorem rd_at {l : List S47} {i : Nat} (h : i < l.length) : rd_T47 l (i : Int) = l[i] := by
  unfold rd_T47; rw [Int.toNat_natCast, List.getD_eq_getElem?_getD, List.getElem?_eq_getElem h]; rfl
theorem check_loop (l : List S47) (hl : l.length ≤ 9000000000000000000) (hx : ∀ x ∈ l, x.f0.size ≤ 9000000000000000000) (d : Nat) : ∀ i : Nat, i + d = l.length →
    Ev (fun k => desc_Check.l0 k l (l.length : Int) (i : Int)) (if (l.drop i).all okE = true then 0 else 1) := by
  induction d with
  | zero =>
    intro i hi
    refine Ev.step (f := fun _ => some 0) (fun k => ?_) ?_
    · simp only [desc_Check.l0]; rw [if_neg (by omega)]
    · rw [List.drop_eq_nil_of_le (by omega)]; exact Ev.now 0
  | succ d ih =>
    intro i hi
    have hlt : i < l.length := by omega
    refine Ev.step (f := fun k => (desc_Name.f k (l[i]).f0).bind fun t => if t = true then (if ((l[i]).f1.size : Int) > 128 then some 1 else desc_Check.l0 k l (l.length : Int) ((i + 1 : Nat) : Int)) else some 1) (fun k => ?_) ?_
    · simp only [desc_Check.l0]
      rw [if_pos (by omega), if_pos (by omega), if_pos (by omega), rd_at hlt, step1 hlt hl]
    · refine Ev.bind (nm_ev _ (hx _ (List.getElem_mem hlt))) ?_
      rw [List.drop_eq_getElem_cons hlt, List.all_cons]
      unfold okE
      by_cases h : nm (l[i]).f0 = true
      · by_cases h2 : ((l[i]).f1.size : Int) > 128
        · have h3 : ¬ (l[i]).f1.size ≤ 128 := by omega
          simp only [h, h2, h3, if_true, decide_false, Bool.and_false, Bool.false_and]
          exact Ev.now _
        · have h3 : (l[i]).f1.size ≤ 128 := by omega
          simp only [h, h2, h3, if_true, if_false, decide_true, Bool.and_true, Bool.true_and]
          exact ih (i + 1) (by omega)
      · simp only [Bool.not_eq_true] at h
        simp only [h, Bool.false_eq_true, if_false, Bool.false_and]
        exact Ev.now _
theorem check_ev (l : List S47) (hl : l.length ≤ 9000000000000000000) (hx : ∀ x ∈ l, x.f0.size ≤ 9000000000000000000) :
    Ev (fun k => desc_Check.f k l) (if ck l = true then 0 else 1) := by
  have hc := check_loop l hl hx l.length 0 (by omega)
  unfold desc_Check.f ck
  by_cases h1 : (l.length : Int) < 1
  · simp only [h1, if_true]
    refine Ev.step (f := fun _ => some 1) (fun k => by simp only [desc_Check.j0, if_true]) ?_
    rw [decide_eq_false (show ¬ 1 ≤ l.length by omega)]
    exact Ev.now 1
  · simp only [h1, if_false]
    rw [decide_eq_true (show 1 ≤ l.length by omega)]
    by_cases h2 : (l.length : Int) > 8
    · refine Ev.step (f := fun _ => some 1) (fun k => by simp only [desc_Check.j0, h2, decide_true, if_true]) ?_
      rw [decide_eq_false (show ¬ l.length ≤ 8 by omega)]
      exact Ev.now 1
    · refine Ev.step (f := fun k => desc_Check.l0 k l (l.length : Int) ((0 : Nat) : Int)) (fun k => by simp only [desc_Check.j0, h2, decide_false, Bool.false_eq_true, if_false]; rfl) ?_
      rw [decide_eq_true (show l.length ≤ 8 by omega), Bool.true_and, Bool.true_and]
      exact hc
/-- What a descriptor that may be is bounded by. -/
theorem ck_size {l : List S47} (hx : ∀ x ∈ l, x.f0.size ≤ 9000000000000000000) (h : ck l = true) : 1 ≤ l.length ∧ l.length ≤ 8 ∧ ∀ x ∈ l, x.f0.size ≤ 64 ∧ x.f1.size ≤ 128 := by
  unfold ck at h
  simp only [Bool.and_eq_true, decide_eq_true_eq, List.all_eq_true] at h
  refine ⟨h.1.1, h.1.2, fun x hm => ?_⟩
  have h2 := h.2 x hm
  unfold okE at h2
  simp only [Bool.and_eq_true, decide_eq_true_eq] at h2
  exact ⟨(nm_same x.f0 (hx x hm)).1 h2.1, h2.2⟩
def bts (l : List UInt8) : ByteArray := ⟨l.toArray⟩
theorem bts_toList (l : List UInt8) : (bts l).toList = l := by rw [ByteArray.toList_eq]; rfl
theorem bts_data (l : List UInt8) : (bts l).data.toList = l := rfl
theorem bts_size (l : List UInt8) : (bts l).size = l.length := by simp [bts, ByteArray.size]
theorem bts_app (l m : List UInt8) : bts l ++ bts m = bts (l ++ m) := by
  apply ByteArray.ext
  simp [bts, ByteArray.data_append]
theorem bts_self (s : ByteArray) : bts s.data.toList = s := by cases s; rfl
theorem bts_inj {s : ByteArray} {l : List UInt8} (h : s.data.toList = l) : s = bts l := by rw [← h, bts_self]
def ent (x : S47) : List UInt8 := desc_Escape.all x.f0.data.toList ++ 61 :: desc_Escape.all x.f1.data.toList
def TT (l : List S47) : List UInt8 := l.flatMap fun y => 44 :: ent y
def T : List S47 → List UInt8
  | [] => []
  | x :: l => ent x ++ TT l
theorem T_join : ∀ l : List S47, Lib.join (l.map ent) [44] = T l
  | [] => rfl
  | [x] => by simp [Lib.join, T, TT, List.intercalate]
  | x :: y :: l => by
    have h := T_join (y :: l)
    unfold Lib.join at h ⊢
    rw [List.map_cons, List.map_cons] at *
    rw [show ([44] : List UInt8).intercalate (ent x :: ent y :: l.map ent) = ent x ++ ([44] ++ ([44] : List UInt8).intercalate (ent y :: l.map ent)) from by simp [List.intercalate, List.intersperse]]
    rw [h]
    simp [T, TT]
theorem ent_len {x : S47} (h : x.f0.size ≤ 64 ∧ x.f1.size ≤ 128) : (ent x).length ≤ 600 := by
  have h1 := desc_Escape.all_len x.f0.data.toList
  have h2 := desc_Escape.all_len x.f1.data.toList
  have e1 : x.f0.data.toList.length = x.f0.size := by simp
  have e2 : x.f1.data.toList.length = x.f1.size := by simp
  unfold ent; rw [List.length_append, List.length_cons]; omega
theorem TT_len : ∀ {l : List S47}, (∀ x ∈ l, x.f0.size ≤ 64 ∧ x.f1.size ≤ 128) → (TT l).length ≤ 601 * l.length
  | [], _ => by simp [TT]
  | x :: l, h => by
    have h1 := ent_len (h x (by simp))
    have h2 := TT_len (l := l) (fun y hy => h y (by simp [hy]))
    unfold TT at *
    rw [List.flatMap_cons, List.length_append, List.length_cons, List.length_cons]; omega
theorem T_len {l : List S47} (h : ∀ x ∈ l, x.f0.size ≤ 64 ∧ x.f1.size ≤ 128) : (T l).length ≤ 601 * l.length := by
  cases l with
  | nil => simp [T]
  | cons x l =>
    have h1 := ent_len (h x (by simp))
    have h2 := TT_len (l := l) (fun y hy => h y (by simp [hy]))
    unfold T; rw [List.length_append, List.length_cons]; omega
theorem esc_f (s : ByteArray) (h : s.size ≤ 1099511627776) : desc_Escape.f s = some (bts (desc_Escape.all s.data.toList)) := by unfold desc_Escape.f; rw [if_pos h]; rfl
theorem text_loop (l : List S47) (hl : l.length ≤ 8) (hx : ∀ x ∈ l, x.f0.size ≤ 64 ∧ x.f1.size ≤ 128) (d : Nat) : ∀ i : Nat, i + d = l.length →
    Ev (fun k => desc_Text.l0 k ((l.take i).map fun x => bts (ent x)) l (l.length : Int) (i : Int)) (bts (T l)) := by
  induction d with
  | zero =>
    intro i hi
    have hj : strings_Join.f ((l.take i).map fun x => bts (ent x)) ⟨#[44]⟩ = some (bts (T l)) := by
      rw [List.take_of_length_le (by omega)]
      have e : ((l.map fun x => bts (ent x)).map fun s => s.data.toList) = l.map ent := by rw [List.map_map]; rfl
      have hz := T_len hx
      unfold strings_Join.f
      rw [show (⟨#[44]⟩ : ByteArray).data.toList = [44] from rfl, e, T_join, if_pos ⟨by omega, by rw [List.length_map]; omega⟩]
      rfl
    refine Ev.step (f := fun _ => some (bts (T l))) (fun k => ?_) (Ev.now _)
    simp only [desc_Text.l0]; rw [if_neg (by omega), hj]; rfl
  | succ d ih =>
    intro i hi
    have hlt : i < l.length := by omega
    have hb := hx _ (List.getElem_mem hlt)
    have h1 := desc_Escape.all_len (l[i]).f0.data.toList
    have h2 := desc_Escape.all_len (l[i]).f1.data.toList
    have e1 : (l[i]).f0.data.toList.length = (l[i]).f0.size := by simp
    have e2 : (l[i]).f1.data.toList.length = (l[i]).f1.size := by simp
    refine Ev.step (f := fun k => desc_Text.l0 k ((l.take (i + 1)).map fun x => bts (ent x)) l (l.length : Int) ((i + 1 : Nat) : Int)) (fun k => ?_) (ih (i + 1) (by omega))
    simp only [desc_Text.l0]
    rw [if_pos (by omega), if_pos (by omega), if_pos (by omega), rd_at hlt, esc_f _ (by omega), esc_f _ (by omega)]
    simp only [Option.bind_some, bts_size]
    rw [if_pos (by omega), if_pos (by omega), if_pos (by rw [List.length_map, List.length_take]; omega), step1 hlt (by omega)]
    congr 1
    rw [List.take_succ_eq_append_getElem hlt, List.map_append]
    congr 1
    show [bts _ ++ bts [61] ++ bts _] = [bts _]
    rw [bts_app, bts_app]
    unfold ent; simp
theorem text_ev (l : List S47) (hl : l.length ≤ 9000000000000000000) (hx : ∀ x ∈ l, x.f0.size ≤ 9000000000000000000) :
    Ev (fun k => desc_Text.f k l) (bts (if ck l = true then T l else [])) := by
  unfold desc_Text.f
  refine Ev.bind (check_ev l hl hx) ?_
  cases h : ck l with
  | true =>
    have hs := ck_size hx h
    simp only [if_true]
    exact text_loop l hs.2.1 hs.2.2 l.length 0 (by omega)
  | false =>
    simp only [Bool.false_eq_true, if_false]
    exact Ev.now _
theorem rcheck_loop (l : List S47) (hl : l.length ≤ 9000000000000000000) (hx : ∀ x ∈ l, x.f0.size ≤ 9000000000000000000) (d : Nat) : ∀ i : Nat, i + d = l.length →
    Ev (fun k => turncockref1_CheckDesc.l0 k (i : Int) l) ((l.drop i).all okE) := by
  induction d with
  | zero =>
    intro i hi
    refine Ev.step (f := fun _ => some true) (fun k => ?_) ?_
    · simp only [turncockref1_CheckDesc.l0]; rw [if_neg (by omega)]
    · rw [List.drop_eq_nil_of_le (by omega)]; exact Ev.now true
  | succ d ih =>
    intro i hi
    have hlt : i < l.length := by omega
    refine Ev.step (f := fun k => (turncockref1_Name.f k (l[i]).f0).bind fun t => if t = true then (if ((l[i]).f1.size : Int) > 128 then some false else turncockref1_CheckDesc.l0 k ((i + 1 : Nat) : Int) l) else some false) (fun k => ?_) ?_
    · simp only [turncockref1_CheckDesc.l0]
      rw [if_pos (by omega), if_pos (by omega), rd_at hlt, step1 hlt hl]
    · refine Ev.bind (rnm_ev _ (hx _ (List.getElem_mem hlt))) ?_
      rw [List.drop_eq_getElem_cons hlt, List.all_cons]
      unfold okE
      by_cases h : nm (l[i]).f0 = true
      · by_cases h2 : ((l[i]).f1.size : Int) > 128
        · have h3 : ¬ (l[i]).f1.size ≤ 128 := by omega
          simp only [h, h2, h3, if_true, decide_false, Bool.and_false, Bool.false_and]
          exact Ev.now _
        · have h3 : (l[i]).f1.size ≤ 128 := by omega
          simp only [h, h2, h3, if_true, if_false, decide_true, Bool.and_true, Bool.true_and]
          exact ih (i + 1) (by omega)
      · simp only [Bool.not_eq_true] at h
        simp only [h, Bool.false_eq_true, if_false, Bool.false_and]
        exact Ev.now _
theorem rcheck_ev (l : List S47) (hl : l.length ≤ 9000000000000000000) (hx : ∀ x ∈ l, x.f0.size ≤ 9000000000000000000) :
    Ev (fun k => turncockref1_CheckDesc.f k l) (ck l) := by
  have hc := rcheck_loop l hl hx l.length 0 (by omega)
  unfold turncockref1_CheckDesc.f ck
  by_cases h1 : (l.length : Int) < 1
  · simp only [h1, if_true]
    refine Ev.step (f := fun _ => some false) (fun k => by simp only [turncockref1_CheckDesc.j0, if_true]) ?_
    rw [decide_eq_false (show ¬ 1 ≤ l.length by omega)]
    exact Ev.now false
  · simp only [h1, if_false]
    rw [decide_eq_true (show 1 ≤ l.length by omega)]
    by_cases h2 : (l.length : Int) > 8
    · refine Ev.step (f := fun _ => some false) (fun k => by simp only [turncockref1_CheckDesc.j0, h2, decide_true, if_true]) ?_
      rw [decide_eq_false (show ¬ l.length ≤ 8 by omega)]
      exact Ev.now false
    · refine Ev.step (f := fun k => turncockref1_CheckDesc.l0 k ((0 : Nat) : Int) l) (fun k => by simp only [turncockref1_CheckDesc.j0, h2, decide_false, Bool.false_eq_true, if_false]; rfl) ?_
      rw [decide_eq_true (show l.length ≤ 8 by omega), Bool.true_and, Bool.true_and]
      exact hc
theorem resc_f (s : ByteArray) (h : s.size ≤ 1099511627776) : turncockref1_Escape.f s = some (bts (desc_Escape.all s.data.toList)) := by unfold turncockref1_Escape.f; rw [if_pos h]; rfl
theorem rtext_loop (l : List S47) (hl : l.length ≤ 8) (hx : ∀ x ∈ l, x.f0.size ≤ 64 ∧ x.f1.size ≤ 128) (d : Nat) : ∀ i : Nat, i + d = l.length → 1 ≤ i → ∀ acc : List UInt8, acc.length ≤ 601 * i →
    Ev (fun k => turncockref1_DescText.l0 k (bts acc) (i : Int) l) (bts (acc ++ TT (l.drop i))) := by
  induction d with
  | zero =>
    intro i hi _ acc ha
    rw [List.drop_eq_nil_of_le (by omega), show TT [] = [] from rfl, List.append_nil]
    refine Ev.step (f := fun _ => some (bts acc)) (fun k => ?_) (Ev.now _)
    simp only [turncockref1_DescText.l0]; rw [if_neg (by omega)]
  | succ d ih =>
    intro i hi hi1 acc ha
    have hlt : i < l.length := by omega
    have hb := hx _ (List.getElem_mem hlt)
    have h1 := desc_Escape.all_len (l[i]).f0.data.toList
    have h2 := desc_Escape.all_len (l[i]).f1.data.toList
    have e1 : (l[i]).f0.data.toList.length = (l[i]).f0.size := by simp
    have e2 : (l[i]).f1.data.toList.length = (l[i]).f1.size := by simp
    have he := ent_len hb
    rw [List.drop_eq_getElem_cons hlt]
    have hT : ∀ (y : S47) (m : List S47), acc ++ TT (y :: m) = (acc ++ 44 :: ent y) ++ TT m := fun y m => by simp [TT]
    rw [hT]
    have hq : (acc ++ 44 :: ent l[i]).length ≤ 601 * (i + 1) := by rw [List.length_append, List.length_cons]; omega
    refine Ev.step (f := fun k => turncockref1_DescText.l0 k (bts (acc ++ 44 :: ent l[i])) ((i + 1 : Nat) : Int) l) (fun k => ?_) (ih (i + 1) (by omega) (by omega) _ hq)
    simp only [turncockref1_DescText.l0]
    rw [if_pos (by omega), if_pos (by omega), if_pos (by rw [bts_size]; omega), if_pos (by omega), rd_at hlt, resc_f _ (by omega), resc_f _ (by omega)]
    simp only [Option.bind_some, bts_size]
    rw [if_pos (by omega), if_pos (by omega), if_pos (by omega), step1 hlt (by omega)]
    congr 1
    show bts _ ++ bts [44] ++ bts _ ++ bts [61] ++ bts _ = bts _
    rw [bts_app, bts_app, bts_app, bts_app]
    unfold ent; simp
theorem rtext_ev (l : List S47) (hl : l.length ≤ 9000000000000000000) (hx : ∀ x ∈ l, x.f0.size ≤ 9000000000000000000) :
    Ev (fun k => turncockref1_DescText.f k l) (bts (if ck l = true then T l else [])) := by
  unfold turncockref1_DescText.f
  refine Ev.bind (rcheck_ev l hl hx) ?_
  cases h : ck l with
  | false =>
    simp only [Bool.false_eq_true, if_false]
    exact Ev.now _
  | true =>
    obtain ⟨hs1, hs2, hs⟩ := ck_size hx h
    simp only [if_true]
    cases l with
    | nil => simp at hs1
    | cons x l =>
      have hb := hs x (by simp)
      have h1 := desc_Escape.all_len x.f0.data.toList
      have h2 := desc_Escape.all_len x.f1.data.toList
      have e1 : x.f0.data.toList.length = x.f0.size := by simp
      have e2 : x.f1.data.toList.length = x.f1.size := by simp
      have he := ent_len hb
      refine Ev.step (f := fun k => turncockref1_DescText.l0 k (bts (ent x)) ((1 : Nat) : Int) (x :: l)) (fun k => ?_) (rtext_loop (x :: l) hs2 hs l.length 1 (by rw [List.length_cons]; omega) (by omega) _ (by omega))
      simp only [turncockref1_DescText.l0]
      rw [if_pos (by rw [List.length_cons]; omega), if_neg (by omega), if_pos (by omega), show rd_T47 (x :: l) 0 = x from rfl, resc_f _ (by omega), resc_f _ (by omega)]
      simp only [Option.bind_some, bts_size]
      rw [if_pos (by show 0 + _ ≤ _; omega), if_pos (by show 0 + _ + 1 ≤ _; omega), if_pos (by show 0 + _ + 1 + _ ≤ _; omega)]
      show turncockref1_DescText.l0 k (bts [] ++ bts _ ++ bts [61] ++ bts _) _ _ = _
      rw [bts_app, bts_app, bts_app]
      unfold ent; simp [wrap64]
theorem Ev.uniq {α : Type} {g : Nat → Option α} {a b : α} (ha : Ev g a) (hb : Ev g b) : a = b := by
  obtain ⟨K, hK⟩ := ha
  obtain ⟨L, hL⟩ := hb
  have h1 := hK (K + L) (by omega)
  rw [hL (K + L) (by omega)] at h1
  exact (Option.some.inj h1).symm
theorem index_at (c : UInt8) : ∀ (a b : List UInt8), c ∉ a → Lib.index (a ++ c :: b) [c] = (a.length : Int)
  | [], b, _ => by unfold Lib.index; simp
  | x :: a, b, h => by
    have hx : ¬ c = x := fun e => h (by simp [e])
    have ih := index_at c a b (fun hm => h (by simp [hm]))
    show Lib.index (x :: (a ++ c :: b)) [c] = _
    unfold Lib.index
    rw [ih]
    have e1 : ((a.length : Int) == -1) = false := by rw [beq_eq_false_iff_ne]; omega
    simp [hx, e1]
theorem index_miss (c : UInt8) : ∀ (a : List UInt8), c ∉ a → Lib.index a [c] = -1
  | [], _ => rfl
  | x :: a, h => by
    have hx : ¬ c = x := fun e => h (by simp [e])
    have ih := index_miss c a (fun hm => h (by simp [hm]))
    unfold Lib.index
    rw [ih]
    simp [hx]
theorem cut_at (c : UInt8) (a b : List UInt8) (h : c ∉ a) : Lib.cut (a ++ c :: b) [c] = (a, b, true) := by
  unfold Lib.cut
  rw [index_at c a b h, if_pos (by omega)]
  simp
theorem cut_len (l sep : List UInt8) : (Lib.cut l sep).1.length ≤ l.length ∧ (Lib.cut l sep).2.1.length ≤ l.length := by
  unfold Lib.cut
  split
  · exact ⟨by rw [List.length_take]; omega, by rw [List.length_drop]; omega⟩
  · exact ⟨Nat.le_refl _, by simp⟩
theorem plainly_len : ∀ (n : Nat) (l : List UInt8), l.length ≤ n → (desc_plainly.all l).length ≤ l.length
  | _, [], _ => by rw [desc_plainly.all_nil]; exact Nat.le_refl _
  | 0, c :: t, h => by simp at h
  | n + 1, c :: t, h => by
    by_cases hc : c = 37 ∧ 2 ≤ t.length
    · obtain ⟨rfl, h2⟩ := hc
      match t, h2 with
      | a :: b :: t, _ =>
        rw [desc_plainly.all_esc, List.length_cons, List.length_cons, List.length_cons, List.length_cons]
        have := plainly_len n t (by simp at h; omega)
        omega
    · rw [desc_plainly.all_plain c t hc, List.length_cons, List.length_cons]
      have := plainly_len n t (by simp at h; omega)
      omega
theorem extract_size_le (s : ByteArray) (a b : Nat) : (s.extract a b).size ≤ s.size := by rw [ByteArray.size_extract]; omega
theorem split_size (sep : ByteArray) : ∀ (k : Nat) (s : ByteArray), ∀ p ∈ Lib.splitB sep 0 k s, p.size ≤ s.size
  | 0, s, p, hp => by rw [Lib.splitB_zero] at hp; simp at hp; rw [hp]; exact Nat.le_refl _
  | k + 1, s, p, hp => by
    unfold Lib.splitB at hp
    split at hp
    · simp at hp; rw [hp]; exact Nat.le_refl _
    · rcases List.mem_cons.1 hp with rfl | hp
      · exact extract_size_le _ _ _
      · exact Nat.le_trans (split_size sep k _ p hp) (extract_size_le _ _ _)
/-- A text put together of parts without commas falls into these parts. -/
theorem split_join : ∀ (ps : List (List UInt8)), (∀ p ∈ ps, 44 ∉ p) → ∀ (q : List UInt8), 44 ∉ q → ∀ s : ByteArray, s.data.toList = q ++ ps.flatMap (fun p => 44 :: p) →
    Lib.splitB ⟨#[44]⟩ 0 (Lib.countB s ⟨#[44]⟩) s = bts q :: ps.map bts
  | [], _, q, hq, s, hs => by
    have e : s.data.toList = q := by simpa using hs
    have hi : Lib.indexB s ⟨#[44]⟩ = -1 := by
      show Lib.index s.data.toList [44] = -1
      rw [e]; exact index_miss 44 q hq
    rw [Lib.splitB_miss _ _ _ _ hi, bts_inj e]; rfl
  | p :: ps, hp, q, hq, s, hs => by
    have e : s.data.toList = q ++ 44 :: (p ++ ps.flatMap (fun p => 44 :: p)) := by rw [hs]; simp
    have hi : Lib.indexB s ⟨#[44]⟩ = (q.length : Int) := by
      show Lib.index s.data.toList [44] = _
      rw [e]; exact index_at 44 q _ hq
    have hz : (⟨#[44]⟩ : ByteArray).size = 1 := rfl
    rw [Lib.countB_hit s ⟨#[44]⟩ q.length (by rw [hz]; omega) hi, Nat.add_comm 1, Lib.splitB_hit _ _ _ _ _ hi, hz]
    have e2 : (s.extract (q.length + 1) s.size).data.toList = p ++ ps.flatMap (fun p => 44 :: p) := by
      rw [Lib.extract_to_end, e]
      rw [show q ++ 44 :: (p ++ ps.flatMap (fun p => 44 :: p)) = (q ++ [44]) ++ (p ++ ps.flatMap (fun p => 44 :: p)) from by simp, List.drop_left' (by simp)]
    rw [split_join ps (fun x hx => hp x (by simp [hx])) p (hp p (by simp)) _ e2]
    have e3 : s.extract 0 (q.length + 0) = bts q := by
      apply bts_inj
      rw [Lib.extract_from_zero, e, Nat.add_zero, List.take_left' rfl]
    rw [e3]; rfl
theorem ent_no (x : S47) : 44 ∉ ent x := by
  unfold ent
  intro h
  rcases List.mem_append.1 h with h | h
  · exact (all_good _ _ h).1 rfl
  · rcases List.mem_cons.1 h with h | h
    · exact absurd h (by decide)
    · exact (all_good _ _ h).1 rfl
def PE (p : ByteArray) : S47 := ⟨bts (desc_plainly.all (Lib.cut p.data.toList [61]).1), bts (desc_plainly.all (Lib.cut p.data.toList [61]).2.1)⟩
theorem PE_ent (x : S47) : PE (bts (ent x)) = x := by
  unfold PE
  rw [bts_data]
  unfold ent
  rw [cut_at 61 _ _ (fun h => (all_good _ _ h).2.1 rfl)]
  simp only [un, bts_self]
theorem split_T (l : List S47) (hl : l ≠ []) (s : ByteArray) (hs : T l = s.data.toList) : (Lib.splitB ⟨#[44]⟩ 0 (Lib.countB s ⟨#[44]⟩) s).map PE = l := by
  cases l with
  | nil => exact absurd rfl hl
  | cons x l =>
    rw [split_join (l.map ent) (fun p hp => by obtain ⟨y, _, rfl⟩ := List.mem_map.1 hp; exact ent_no y) (ent x) (ent_no x) s (by rw [← hs]; unfold T TT; rw [List.flatMap_map])]
    rw [List.map_cons, PE_ent, List.map_map, List.map_map]
    congr 1
    have h : l.map ((PE ∘ bts) ∘ ent) = l.map id := List.map_congr_left (fun y _ => PE_ent y)
    rw [h, List.map_id]
def fin (s : ByteArray) (l : List S47) : List S47 × Bool := if ck l = true then (if T l = s.data.toList then (l, true) else ([], false)) else ([], false)
theorem rdB_at {l : List ByteArray} {i : Nat} (h : i < l.length) : rdOf ByteArray.empty l (i : Int) = l[i] := by
  unfold rdOf; rw [Int.toNat_natCast, List.getD_eq_getElem?_getD, List.getElem?_eq_getElem h]; rfl
theorem PE_size (p : ByteArray) : (PE p).f0.size ≤ p.size ∧ (PE p).f1.size ≤ p.size := by
  have h := cut_len p.data.toList [61]
  have e : p.data.toList.length = p.size := by simp
  have h1 := plainly_len _ (Lib.cut p.data.toList [61]).1 (Nat.le_refl _)
  have h2 := plainly_len _ (Lib.cut p.data.toList [61]).2.1 (Nat.le_refl _)
  unfold PE
  simp only [bts_size]
  omega
theorem fin_ev (s : ByteArray) (l : List S47) (hl : l.length ≤ 9000000000000000000) (hx : ∀ x ∈ l, x.f0.size ≤ 9000000000000000000) :
    Ev (fun k => (desc_Check.f k l).bind fun t129 => (if t129 = 0 then ((desc_Text.f k l).bind fun t130 => (if t130.toList = s.toList then (some (l, true)) else (some (([] : List (S47)), false)))) else (some (([] : List (S47)), false)))) (fin s l) := by
  refine Ev.bind (check_ev l hl hx) ?_
  unfold fin
  cases h : ck l with
  | false => simp only [Bool.false_eq_true, if_false]; exact Ev.now _
  | true =>
    simp only [if_true]
    refine Ev.bind (text_ev l hl hx) ?_
    simp only [h, if_true, bts_toList, ByteArray.toList_eq s]
    by_cases hT : T l = s.data.toList
    · simp only [hT, if_true]; exact Ev.now _
    · simp only [hT, if_false]; exact Ev.now _
theorem read_loop (s : ByteArray) (ps : List ByteArray) (hl : ps.length ≤ 1000000000) (hp : ∀ p ∈ ps, p.size ≤ 1000000000) (d : Nat) : ∀ i : Nat, i + d = ps.length →
    Ev (fun k => desc_Read.l0 k s ps (ps.length : Int) (i : Int) ((ps.take i).map PE)) (fin s (ps.map PE)) := by
  induction d with
  | zero =>
    intro i hi
    rw [List.take_of_length_le (by omega)]
    refine Ev.step (fun k => ?_) (fin_ev s (ps.map PE) (by rw [List.length_map]; omega) ?_)
    · simp only [desc_Read.l0]; rw [if_neg (by omega)]
    · intro x hx
      obtain ⟨p, hm, rfl⟩ := List.mem_map.1 hx
      have := hp p hm
      have := (PE_size p).1
      omega
  | succ d ih =>
    intro i hi
    have hlt : i < ps.length := by omega
    have hb := hp _ (List.getElem_mem hlt)
    have hc := cut_len (ps[i]).data.toList [61]
    have e : (ps[i]).data.toList.length = (ps[i]).size := by simp
    refine Ev.step (f := fun k => desc_Read.l0 k s ps (ps.length : Int) ((i + 1 : Nat) : Int) ((ps.take (i + 1)).map PE)) (fun k => ?_) (ih (i + 1) (by omega))
    simp only [desc_Read.l0]
    have c1 : strings_Cut.f ps[i] ⟨#[61]⟩ = some (bts (Lib.cut (ps[i]).data.toList [61]).1, bts (Lib.cut (ps[i]).data.toList [61]).2.1, (Lib.cut (ps[i]).data.toList [61]).2.2) := by
      unfold strings_Cut.f; rw [if_pos ⟨rfl, by omega⟩]; rfl
    have c2 : ∀ l : List UInt8, l.length ≤ 1000000000 → desc_plainly.f (bts l) = some (bts (desc_plainly.all l)) := fun l h => by
      unfold desc_plainly.f; rw [if_pos (by rw [bts_size]; omega)]; rfl
    rw [if_pos (by omega), if_pos (by omega), if_pos (by omega), rdB_at hlt, c1]
    simp only [Option.bind_some]
    rw [c2 _ (by omega), c2 _ (by omega)]
    simp only [Option.bind_some]
    rw [if_pos (by rw [List.length_map, List.length_take]; omega), step1 hlt (by omega)]
    congr 1
    rw [List.take_succ_eq_append_getElem hlt, List.map_append]
    rfl
theorem read_ev (s : ByteArray) (hn : s.size ≤ 100000000) : Ev (fun k => desc_Read.f k s) (fin s ((Lib.splitB ⟨#[44]⟩ 0 (Lib.countB s ⟨#[44]⟩) s).map PE)) := by
  have h1 := Lib.countB_le ⟨#[44]⟩ (by decide) s.size s (Nat.le_refl _)
  have h2 := Lib.splitB_length_le ⟨#[44]⟩ 0 (Lib.countB s ⟨#[44]⟩) s
  have hf : strings_Split.f s ⟨#[44]⟩ = some (Lib.splitB ⟨#[44]⟩ 0 (Lib.countB s ⟨#[44]⟩) s) := by
    unfold strings_Split.f; rw [if_pos ⟨rfl, by omega⟩]
  unfold desc_Read.f
  rw [hf]
  simp only [Option.bind_some]
  exact read_loop s _ (by omega) (fun p hp => by have := split_size _ _ _ p hp; omega) _ 0 (Nat.zero_add _)
theorem bt_get (s : ByteArray) (i : Nat) (h : i < s.size) : bt s (i : Int) = ((s.data.toList[i]'(by simpa using h)).toNat : Int) := by
  unfold bt; simp only [Int.toNat_natCast]; rw [dif_pos h]; rfl
theorem size_data (s : ByteArray) : s.data.toList.length = s.size := by simp
theorem T_ne {l : List S47} (h : ck l = true) : T l ≠ [] := by
  cases l with
  | nil => simp [ck] at h
  | cons x l => unfold T ent; simp
theorem same_loop (l : List S47) (hl : l.length ≤ 9000000000000000000) (d : Nat) : ∀ i : Nat, i + d = l.length → Ev (fun k => turncockref1_SameDesc.l0 k (i : Int) l l) true := by
  induction d with
  | zero =>
    intro i hi
    refine Ev.step (f := fun _ => some true) (fun k => ?_) (Ev.now _)
    simp only [turncockref1_SameDesc.l0]; rw [if_neg (by omega)]
  | succ d ih =>
    intro i hi
    refine Ev.step (f := fun k => turncockref1_SameDesc.l0 k ((i + 1 : Nat) : Int) l l) (fun k => ?_) (ih (i + 1) (by omega))
    simp only [turncockref1_SameDesc.l0]
    rw [if_pos (by omega), if_pos (by omega), if_pos (by omega), if_neg (by simp), step1 (show i < l.length by omega) hl]
theorem same_ev (l : List S47) (hl : l.length ≤ 9000000000000000000) : Ev (fun k => turncockref1_SameDesc.f k l l) true := by
  unfold turncockref1_SameDesc.f
  simp only [if_true]
  exact same_loop l hl l.length 0 (Nat.zero_add _)
def hold (a : Int) : Int := if a < 0 then 0 else if a > 4611686018427387904 then 4611686018427387904 else a
theorem hold_rng (a : Int) : 0 ≤ hold a ∧ hold a ≤ 4611686018427387904 := by
  unfold hold
  repeat' split
  all_goals omega
theorem hold_in (a : Int) (h0 : 0 ≤ a) (h1 : a ≤ 4611686018427387904) : hold a = a := by
  unfold hold
  rw [if_neg (by omega), if_neg (by omega)]
theorem numhold_f (a : Int) : num_Hold.f a = some (hold a) := by
  unfold num_Hold.f hold mx mn
  congr 1
  repeat' split
  all_goals omega
def addH (a b : Int) : Int := if hold a + hold b > 4611686018427387904 then 4611686018427387904 else hold a + hold b
theorem add_f (a b : Int) : num_Add.f a b = some (addH a b) := by
  have ha := hold_rng a
  have hb := hold_rng b
  unfold num_Add.f addH
  rw [numhold_f, numhold_f]
  simp only [Option.bind_some]
  rw [show wrap64 (4611686018427387904 - hold b) = 4611686018427387904 - hold b from by unfold wrap64; omega]
  by_cases h : hold a + hold b > 4611686018427387904
  · rw [if_pos h, if_pos (by omega)]
  · rw [if_neg h, if_neg (by omega), show wrap64 (hold a + hold b) = hold a + hold b from by unfold wrap64; omega]
def mulH (a b : Int) : Int := if hold a * hold b > 4611686018427387904 then 4611686018427387904 else hold a * hold b
theorem mul_f (a b : Int) : num_Mul.f a b = some (mulH a b) := by
  have ha := hold_rng a
  have hb := hold_rng b
  have h0 : 0 ≤ hold a * hold b := Int.mul_nonneg ha.1 hb.1
  unfold num_Mul.f mulH
  rw [numhold_f, numhold_f]
  simp only [Option.bind_some]
  by_cases h1 : hold b > 0
  · have key : hold a ≤ 4611686018427387904 / hold b ↔ hold a * hold b ≤ 4611686018427387904 := Int.le_ediv_iff_mul_le h1
    rw [if_pos h1]
    by_cases h : hold a * hold b > 4611686018427387904
    · rw [if_pos h, if_pos (by omega)]
    · rw [if_neg h, if_neg (by omega), show wrap64 (hold a * hold b) = hold a * hold b from by unfold wrap64; omega]
  · have e : hold b = 0 := by omega
    rw [if_neg h1, e, Int.mul_zero]; simp [wrap64]
def toB (z : Int) : UInt8 := UInt8.ofNat z.toNat
theorem toB_nat (n : Nat) : toB (n : Int) = UInt8.ofNat n := by unfold toB; rw [Int.toNat_natCast]
theorem digit_term (n : Nat) : (wrap64 (48 + Int.tmod (n : Int) 10)) % 256 = ((48 + n % 10 : Nat) : Int) := by
  rw [Int.tmod_eq_emod_of_nonneg (by omega)]
  unfold wrap64
  omega
theorem quo_term (n : Nat) (h : n ≤ 4611686018427387904) : wrap64 (Int.tdiv (n : Int) 10) = ((n / 10 : Nat) : Int) := by
  rw [Int.tdiv_eq_ediv_of_nonneg (by omega)]
  unfold wrap64
  omega
theorem dig_l0 (d : Nat) : ∀ (k n : Nat) (acc : List Int), n ≤ 4611686018427387904 → n < 10 ^ d → d < k → acc.length + d ≤ 1000 →
    num_Digits.l0 k (n : Int) acc = some ⟨(Dec.pre n ++ acc.map toB).toArray⟩ := by
  induction d with
  | zero =>
    intro k n acc hm hn hk ha
    obtain ⟨k, rfl⟩ : ∃ m, k = m + 1 := ⟨k - 1, by omega⟩
    obtain rfl : n = 0 := by omega
    simp only [num_Digits.l0]
    rw [if_neg (by omega)]; rfl
  | succ d ih =>
    intro k n acc hm hn hk ha
    obtain ⟨k, rfl⟩ : ∃ m, k = m + 1 := ⟨k - 1, by omega⟩
    by_cases h : n = 0
    · subst h
      simp only [num_Digits.l0]
      rw [if_neg (by omega)]; rfl
    · simp only [num_Digits.l0]
      rw [if_pos (by omega), digit_term, quo_term n hm]
      simp only [Option.bind_some]
      rw [if_pos (by simp; omega), ih k (n / 10) _ (by omega) (by rw [Nat.pow_succ] at hn; omega) (by omega) (by simp; omega), Dec.pre_step n h]
      simp only [List.map_append, List.map_cons, List.map_nil, toB_nat, List.append_assoc]
theorem digits_f (a : Int) (k : Nat) (hk : 20 < k) : num_Digits.f k a = some ⟨(Dec.dec (hold a).toNat).toArray⟩ := by
  have ha := hold_rng a
  unfold num_Digits.f
  rw [numhold_f]
  simp only [Option.bind_some]
  obtain ⟨n, hn⟩ : ∃ n : Nat, hold a = n := ⟨(hold a).toNat, by omega⟩
  rw [hn] at ha ⊢
  rw [digit_term, quo_term n (by omega), dig_l0 19 k (n / 10) _ (by omega) (by omega) (by omega) (by simp)]
  rw [Int.toNat_natCast, Dec.dec_pre n]
  simp only [List.map_cons, List.map_nil, toB_nat]
/-- What digits are worth upon a. -/
def valF (a : Nat) (l : List UInt8) : Nat := l.foldl (fun a c => a * 10 + (c.toNat - 48)) a
theorem valF_ge (l : List UInt8) : ∀ a, a ≤ valF a l := by
  induction l with
  | nil => intro a; exact Nat.le_refl _
  | cons c l ih => intro a; exact Nat.le_trans (by omega) (ih (a * 10 + (c.toNat - 48)))
def allD (l : List UInt8) : Prop := ∀ c ∈ l, Dec.isDig c
def MX : Nat := 4611686018427387904
theorem sat_step (a d : Nat) (hd : d ≤ 9) : addH (mulH ((min a MX : Nat) : Int) 10) (d : Int) = ((min (a * 10 + d) MX : Nat) : Int) := by
  have e1 : hold ((min a MX : Nat) : Int) = ((min a MX : Nat) : Int) := hold_in _ (by omega) (by unfold MX; omega)
  have e2 : hold (10 : Int) = 10 := rfl
  have e3 : hold (d : Int) = d := hold_in _ (by omega) (by omega)
  have e4 : mulH ((min a MX : Nat) : Int) 10 = ((min (a * 10) MX : Nat) : Int) := by
    unfold mulH; rw [e1, e2]; unfold MX; split <;> omega
  unfold addH
  rw [e4, e3, hold_in _ (by omega) (by unfold MX; omega)]
  unfold MX; split <;> omega
theorem byte_next (s : ByteArray) (pos : Nat) (h : pos < s.size) :
    (((Utf8.decode s pos) = ((s[pos]'h).toNat, 1)) ∨ 128 ≤ (Utf8.decode s pos).1) ∧ ((s[pos]'h).toNat < 128 → (Utf8.decode s pos) = ((s[pos]'h).toNat, 1)) ∧ (128 ≤ (s[pos]'h).toNat → 128 ≤ (Utf8.decode s pos).1) := by
  by_cases ha : (s[pos]'h).toNat < 128
  · have := decode_ascii s pos h ha
    exact ⟨.inl this, fun _ => this, fun h => by omega⟩
  · have := (decode_high s pos h (by omega)).1
    exact ⟨.inr this, fun h => by omega, fun _ => this⟩
theorem parse_l0 (s : ByteArray) (d : Nat) : ∀ (k pos a : Nat), pos + d = s.size → d + 21 < k →
    (allD (s.data.toList.drop pos) → num_Parse.l0 k s pos ((min a MX : Nat) : Int) = if ¬ Dec.dec (min (valF a (s.data.toList.drop pos)) MX) = s.data.toList then some (0, false) else some (((min (valF a (s.data.toList.drop pos)) MX : Nat) : Int), true)) ∧
    (¬ allD (s.data.toList.drop pos) → num_Parse.l0 k s pos ((min a MX : Nat) : Int) = some (0, false)) := by
  have hl : s.data.toList.length = s.size := by simp
  induction d with
  | zero =>
    intro k pos a hp hk
    obtain ⟨k, rfl⟩ : ∃ m, k = m + 1 := ⟨k - 1, by omega⟩
    have e : s.data.toList.drop pos = [] := List.drop_eq_nil_of_le (by omega)
    rw [e]
    refine ⟨fun _ => ?_, fun h => absurd (fun c hc => by simp at hc) h⟩
    simp only [num_Parse.l0]
    rw [if_neg (by omega), digits_f _ _ (by omega)]
    simp only [Option.bind_some]
    rw [hold_in _ (by omega) (by unfold MX; omega), Int.toNat_natCast, ByteArray.toList_eq, ByteArray.toList_eq]
    rfl
  | succ d ih =>
    intro k pos a hp hk
    obtain ⟨k, rfl⟩ : ∃ m, k = m + 1 := ⟨k - 1, by omega⟩
    have hlt : pos < s.size := by omega
    have e : s.data.toList.drop pos = s[pos]'hlt :: s.data.toList.drop (pos + 1) := by
      rw [List.drop_eq_getElem_cons (by omega)]; rfl
    obtain ⟨b0, b1, b2⟩ := byte_next s pos hlt
    rw [e]
    have hcons : allD (s[pos]'hlt :: s.data.toList.drop (pos + 1)) ↔ Dec.isDig (s[pos]'hlt) ∧ allD (s.data.toList.drop (pos + 1)) := by
      unfold allD; simp
    rw [hcons]
    generalize hb : s[pos]'hlt = b at *
    have hv : valF a (b :: s.data.toList.drop (pos + 1)) = valF (a * 10 + (b.toNat - 48)) (s.data.toList.drop (pos + 1)) := rfl
    rw [hv]
    have hblt := b.toNat_lt
    simp only [num_Parse.l0]
    rw [if_pos hlt]
    by_cases hd : Dec.isDig b
    · have hd' := hd
      unfold Dec.isDig at hd'
      have hdec := b1 (by omega)
      rw [hdec]
      simp only []
      rw [if_neg (by omega), if_neg (by omega), mul_f]
      simp only [Option.bind_some]
      rw [add_f]
      simp only [Option.bind_some]
      rw [show ((b.toNat : Int) - 48) = ((b.toNat - 48 : Nat) : Int) from by omega, sat_step a (b.toNat - 48) (by omega)]
      obtain ⟨h1, h2⟩ := ih k (pos + 1) (a * 10 + (b.toNat - 48)) (by omega) (by omega)
      exact ⟨fun h => h1 h.2, fun h => h2 (fun h' => h ⟨hd, h'⟩)⟩
    · refine ⟨fun h => absurd h.1 hd, fun _ => ?_⟩
      have hc : (Utf8.decode s pos).1 < 48 ∨ 57 < (Utf8.decode s pos).1 := by
        by_cases ha : b.toNat < 128
        · have h2 : (Utf8.decode s pos).1 = b.toNat := by rw [b1 ha]
          rw [h2]
          unfold Dec.isDig at hd
          omega
        · have := b2 (by omega); omega
      rcases hc with hc | hc
      · rw [if_pos (by omega)]
      · rw [if_neg (by omega), if_pos (by omega)]
/-- What a text is as a number. -/
def good (l : List UInt8) : Prop := allD l ∧ l ≠ [] ∧ (l.length = 1 ∨ l.head? ≠ some 48) ∧ Dec.val l ≤ MX
theorem dec_good {l : List UInt8} {n : Nat} (h : Dec.dec n = l) (hn : n ≤ MX) : good l ∧ Dec.val l = n := by
  have hv : Dec.val l = n := by rw [← h, Dec.val_dec]
  refine ⟨⟨by rw [← h]; exact Dec.dec_digs n, by rw [← h]; exact Dec.dec_ne n, ?_, by omega⟩, hv⟩
  by_cases h0 : n = 0
  · subst h0; rw [← h, Dec.dec_small 0 (by omega)]; exact .inl rfl
  · rw [← h]; exact .inr (Dec.dec_head n (by omega))
theorem parse_good (s : ByteArray) (k : Nat) (hk : s.size + 21 < k) (h : good s.data.toList) : num_Parse.f k s = some ((Dec.val s.data.toList : Int), true) := by
  have := (parse_l0 s s.size k 0 0 (by omega) hk).1 (by rw [List.drop_zero]; exact h.1)
  have e0 : num_Parse.f k s = num_Parse.l0 k s 0 ((min 0 MX : Nat) : Int) := rfl
  rw [e0, this, List.drop_zero]
  have e : min (valF 0 s.data.toList) MX = Dec.val s.data.toList := Nat.min_eq_left h.2.2.2
  rw [e, if_neg]
  rw [Dec.dec_of _ h.1 h.2.1 h.2.2.1]; simp
theorem parse_bad (s : ByteArray) (k : Nat) (hk : s.size + 21 < k) (h : ¬ good s.data.toList) : num_Parse.f k s = some (0, false) := by
  have hp := parse_l0 s s.size k 0 0 (by omega) hk
  rw [List.drop_zero] at hp
  have e0 : num_Parse.f k s = num_Parse.l0 k s 0 ((min 0 MX : Nat) : Int) := rfl
  rw [e0]
  by_cases hd : allD s.data.toList
  · rw [hp.1 hd, if_pos]
    intro e
    exact h (dec_good e (Nat.min_le_right _ _)).1
  · rw [hp.2 hd]
def sec (u : Int) : Int := if u = 1 then 1 else if u = 2 then 60 else if u = 3 then 3600 else if u = 4 then 86400 else 0
theorem sec_cases (u : Int) : sec u = 0 ∨ sec u = 1 ∨ sec u = 60 ∨ sec u = 3600 ∨ sec u = 86400 := by
  unfold sec
  repeat' split
  all_goals omega
theorem u_cases (u : Int) : u < 1 ∨ u > 4 ∨ u = 1 ∨ u = 2 ∨ u = 3 ∨ u = 4 := by omega
theorem secs_f (u : Int) : unit_Secs.f u = some (sec u) := by
  rcases u_cases u with h | h | rfl | rfl | rfl | rfl
  · unfold unit_Secs.f sec
    rw [if_pos h, if_neg (by omega), if_neg (by omega), if_neg (by omega), if_neg (by omega)]
  · unfold unit_Secs.f sec
    rw [if_neg (by omega), if_pos h, if_neg (by omega), if_neg (by omega), if_neg (by omega), if_neg (by omega)]
  all_goals decide +kernel
theorem div_f (a b : Int) (h0 : 0 ≤ b) (h1 : b ≤ 86400) : num_Div.f a b = some (if b = 0 then (0, 1) else (hold a / b, 0)) := by
  have hb : hold b = b := by unfold hold; rw [if_neg (by omega), if_neg (by omega)]
  have ha := hold_rng a
  unfold num_Div.f
  rw [numhold_f, numhold_f, hb]
  simp only [Option.bind_some]
  by_cases h : b = 0
  · rw [if_pos h, if_pos h]
  · rw [if_neg h, if_neg h, if_neg h, Int.tdiv_eq_ediv_of_nonneg ha.1]
    have d0 : 0 ≤ hold a / b := Int.ediv_nonneg ha.1 h0
    have d1 : hold a / b ≤ hold a := Int.ediv_le_self _ ha.1
    rw [show wrap64 (hold a / b) = hold a / b from by unfold wrap64; omega]
def win (a u : Int) : Int := hold a / sec u
theorem win_rng (a u : Int) : 0 ≤ win a u ∧ win a u * sec u ≤ hold a := by
  have ha := hold_rng a
  unfold win
  rcases sec_cases u with h | h | h | h | h <;> rw [h] <;> constructor <;> omega
theorem window_f (a u : Int) : unit_Window.f a u = some (win a u) := by
  have hs := sec_cases u
  unfold unit_Window.f
  rw [secs_f]
  simp only [Option.bind_some]
  rw [div_f a (sec u) (by omega) (by omega)]
  simp only [Option.bind_some]
  by_cases h : sec u = 0
  · rw [if_pos h]; unfold win; rw [h, Int.ediv_zero]
  · rw [if_neg h]; rfl
theorem start_f (a u : Int) : unit_Start.f a u = some (win a u * sec u) := by
  have hs := sec_cases u
  have hw := win_rng a u
  have ha := hold_rng a
  have h0 : 0 ≤ win a u * sec u := Int.mul_nonneg hw.1 (by omega)
  unfold unit_Start.f
  rw [window_f, secs_f]
  simp only [Option.bind_some]
  rw [show wrap64 (win a u * sec u) = win a u * sec u from by unfold wrap64; omega]
theorem end_f (a u : Int) : unit_End.f a u = some (win a u * sec u + sec u) := by
  have hs := sec_cases u
  have hw := win_rng a u
  have ha := hold_rng a
  have h0 : 0 ≤ win a u * sec u := Int.mul_nonneg hw.1 (by omega)
  unfold unit_End.f
  rw [start_f, secs_f]
  simp only [Option.bind_some]
  rw [show wrap64 (win a u * sec u + sec u) = win a u * sec u + sec u from by unfold wrap64; omega]
def uname (u : Int) : List UInt8 := if u = 1 then [115, 101, 99, 111, 110, 100] else if u = 2 then [109, 105, 110, 117, 116, 101] else if u = 3 then [104, 111, 117, 114] else if u = 4 then [100, 97, 121] else []
theorem name_f (u : Int) : unit_Name.f u = some (bts (uname u)) := by
  rcases u_cases u with h | h | rfl | rfl | rfl | rfl
  · have hs : sec u = 0 := by unfold sec; rw [if_neg (by omega), if_neg (by omega), if_neg (by omega), if_neg (by omega)]
    unfold unit_Name.f uname
    rw [secs_f, hs, if_neg (by omega), if_neg (by omega), if_neg (by omega), if_neg (by omega)]
    rfl
  · have hs : sec u = 0 := by unfold sec; rw [if_neg (by omega), if_neg (by omega), if_neg (by omega), if_neg (by omega)]
    unfold unit_Name.f uname
    rw [secs_f, hs, if_neg (by omega), if_neg (by omega), if_neg (by omega), if_neg (by omega)]
    rfl
  all_goals rfl
theorem uname_len (u : Int) : (uname u).length ≤ 6 := by
  unfold uname
  repeat' split
  all_goals decide
theorem uname_no (u : Int) : 124 ∉ uname u := by
  unfold uname
  repeat' split
  all_goals decide
theorem index_bar (s : ByteArray) : strings_IndexByte.f s 124 = some (Lib.indexByte s.data.toList 124) := rfl
theorem index_bar_iff (s : ByteArray) : Lib.indexByte s.data.toList 124 ≥ 0 ↔ 124 ∈ s.data.toList := by
  have h : ∀ l : List UInt8, 0 ≤ Lib.indexByte l 124 ↔ 124 ∈ l := by
    intro l
    induction l with
    | nil => simp [Lib.indexByte]
    | cons b l ih =>
      have hg := Lib.indexByte_ge l 124
      unfold Lib.indexByte
      by_cases hb : b = 124
      · simp [hb]
      · have hb1 : (b == 124) = false := beq_eq_false_iff_ne.2 hb
        rw [hb1, List.mem_cons]
        by_cases hm : Lib.indexByte l 124 = -1
        · have hn : ¬ 124 ∈ l := fun h => by have := ih.2 h; omega
          simp [hm, hn]
          exact fun e => hb e.symm
        · have hm1 : (Lib.indexByte l 124 == -1) = false := beq_eq_false_iff_ne.2 hm
          have hy : 124 ∈ l := ih.1 (by omega)
          simp [hm1, hy]
          omega
  exact h _
theorem T_no : ∀ (l : List S47), 124 ∉ T l := by
  have he : ∀ x : S47, 124 ∉ ent x := by
    intro x h
    unfold ent at h
    rcases List.mem_append.1 h with h | h
    · exact (all_good _ _ h).2.2.1 rfl
    · rcases List.mem_cons.1 h with h | h
      · exact absurd h (by decide)
      · exact (all_good _ _ h).2.2.1 rfl
  intro l h
  cases l with
  | nil => simp [T] at h
  | cons x l =>
    unfold T TT at h
    rcases List.mem_append.1 h with h | h
    · exact he x h
    · obtain ⟨y, _, hy⟩ := List.mem_flatMap.1 h
      rcases List.mem_cons.1 hy with hy | hy
      · exact absurd hy (by decide)
      · exact he y hy
theorem dec_no (n : Nat) : 124 ∉ Dec.dec n := by
  intro h
  have := Dec.dec_digs n _ h
  unfold Dec.isDig at this
  exact absurd this (by decide)
theorem dec_short (n : Nat) (h : n ≤ 4611686018427387904) : (Dec.dec n).length ≤ 19 := Dec.dec_len 18 n (by omega)
def keyT (p : List UInt8) (d : List S47) (u w : Int) : List UInt8 := p ++ 124 :: (T d ++ 124 :: (uname u ++ 124 :: Dec.dec w.toNat))
def okK (p : ByteArray) (d : List S47) (u : Int) : Bool := !decide (p.data.toList = []) && !decide (124 ∈ p.data.toList) && ck d && !decide (sec u = 0)
def made (p : ByteArray) (d : List S47) (u now : Int) : ByteArray × Int × Bool := if okK p d u = true then (bts (keyT p.data.toList d u (win now u)), win now u * sec u + sec u, true) else (bts [], 0, false)
theorem win_small (now u : Int) : 0 ≤ win now u ∧ win now u ≤ 4611686018427387904 := by
  have ha := hold_rng now
  unfold win
  rcases sec_cases u with h | h | h | h | h <;> rw [h] <;> constructor <;> omega
theorem digits_ev (now u : Int) : Ev (fun k => num_Digits.f k (win now u)) (bts (Dec.dec (win now u).toNat)) := by
  have h := win_small now u
  refine ⟨21, fun k hk => ?_⟩
  show num_Digits.f k (win now u) = _
  rw [digits_f _ _ (by omega), hold_in _ h.1 h.2]; rfl
theorem kmake_ev (p : ByteArray) (d : List S47) (u now : Int) (hp : p.size ≤ 1000) (hl : d.length ≤ 3000) (hx : ∀ x ∈ d, x.f0.size ≤ 3000 ∧ x.f1.size ≤ 3000) :
    Ev (fun k => key_Make.f k p d u now) (made p d u now) := by
  have hx' : ∀ x ∈ d, x.f0.size ≤ 9000000000000000000 := fun x h => by have := (hx x h).1; omega
  have hbad : ∀ r, r = (bts [], 0, false) → Ev (fun k => key_Make.j0 k p u now true d) r := fun r e => e ▸ Ev.step (f := fun _ => some (bts [], 0, false)) (fun k => by simp only [key_Make.j0, if_true]; rfl) (Ev.now _)
  unfold key_Make.f made okK
  by_cases h1 : p.data.toList = []
  · simp only [ByteArray.toList_eq p, h1, if_true, decide_true, Bool.not_true, Bool.false_and, Bool.false_eq_true, if_false]
    exact hbad _ rfl
  · simp only [ByteArray.toList_eq p, h1, if_false, decide_false, Bool.not_false, Bool.true_and, index_bar, Option.bind_some]
    by_cases h2 : 124 ∈ p.data.toList
    · have h2' := (index_bar_iff p).2 h2
      simp only [h2', h2, if_true, decide_true, Bool.not_true, Bool.false_and, Bool.false_eq_true, if_false]
      exact hbad _ rfl
    · have h2' : ¬ Lib.indexByte p.data.toList 124 ≥ 0 := fun h => h2 ((index_bar_iff p).1 h)
      simp only [h2', h2, if_false, decide_false, Bool.not_false, Bool.true_and]
      refine Ev.bind (check_ev d (by omega) hx') ?_
      cases hk : ck d with
      | false =>
        simp only [Bool.false_eq_true, if_false, Bool.false_and, show ¬ ((1 : Int) = 0) by decide]
        exact hbad _ rfl
      | true =>
        simp only [if_true, Bool.true_and, secs_f, Option.bind_some]
        by_cases h3 : sec u = 0
        · simp only [h3, BEq.rfl, decide_true, Bool.not_true, Bool.false_eq_true, if_false]
          exact hbad _ rfl
        · have h3' : (sec u == 0) = false := beq_eq_false_iff_ne.2 h3
          simp only [h3', h3, decide_false, Bool.not_false, if_true]
          obtain ⟨_, k2, k3⟩ := ck_size hx' hk
          have hz := T_len k3
          have hd := dec_short (win now u).toNat (by have := win_small now u; omega)
          have hu := uname_len u
          refine Ev.step (f := fun k => (desc_Text.f k d).bind fun t158 => ((unit_Name.f u).bind fun t159 => ((unit_Window.f now u).bind fun t160 => ((num_Digits.f k t160).bind fun t161 => ((strings_Join.f (([p, t158, t159, t161] : List ByteArray)) (⟨#[124]⟩ : ByteArray)).bind fun t165 => ((unit_End.f now u).bind fun t166 => (some (t165, t166, true)))))))) (fun k => by simp only [key_Make.j0, Bool.false_eq_true, if_false]) ?_
          refine Ev.bind (text_ev d (by omega) hx') ?_
          simp only [name_f, window_f, Option.bind_some, hk, if_true]
          refine Ev.bind (digits_ev now u) ?_
          have hj : strings_Join.f [p, bts (T d), bts (uname u), bts (Dec.dec (win now u).toNat)] ⟨#[124]⟩ = some (bts (keyT p.data.toList d u (win now u))) := by
            have e : Lib.join ([p, bts (T d), bts (uname u), bts (Dec.dec (win now u).toNat)].map (·.data.toList)) (⟨#[124]⟩ : ByteArray).data.toList = keyT p.data.toList d u (win now u) := by
              simp [Lib.join, List.intercalate, List.intersperse, keyT, bts]
            unfold strings_Join.f
            rw [e, if_pos ⟨by unfold keyT; simp only [List.length_append, List.length_cons, size_data]; omega, by simp⟩]
            rfl
          simp only [hj, end_f, Option.bind_some]
          exact Ev.now _
theorem rsecs_f (u : Int) : turncockref15_Secs.f u = some (sec u) := by
  unfold turncockref15_Secs.f sec
  repeat' split
  all_goals rfl
theorem rhold_f (a : Int) : turncockref1_Hold.f a = some (hold a) := by
  unfold turncockref1_Hold.f hold
  repeat' split
  all_goals rfl
theorem rwindow_f (a u : Int) : turncockref15_Window.f a u = some (win a u) := by
  have hs := sec_cases u
  have ha := hold_rng a
  unfold turncockref15_Window.f
  rw [rsecs_f, rhold_f]
  simp only [Option.bind_some]
  by_cases h : sec u = 0
  · rw [if_pos h]; unfold win; rw [h, Int.ediv_zero]
  · rw [if_neg h, if_neg h, Int.tdiv_eq_ediv_of_nonneg ha.1]
    have d0 : 0 ≤ hold a / sec u := Int.ediv_nonneg ha.1 (by omega)
    have d1 : hold a / sec u ≤ hold a := Int.ediv_le_self _ ha.1
    rw [show wrap64 (hold a / sec u) = hold a / sec u from by unfold wrap64; omega]; rfl
theorem rstart_f (a u : Int) : turncockref15_Start.f a u = some (win a u * sec u) := by
  have hs := sec_cases u
  have hw := win_rng a u
  have ha := hold_rng a
  have h0 : 0 ≤ win a u * sec u := Int.mul_nonneg hw.1 (by omega)
  unfold turncockref15_Start.f
  rw [rwindow_f, rsecs_f]
  simp only [Option.bind_some]
  rw [show wrap64 (win a u * sec u) = win a u * sec u from by unfold wrap64; omega]
theorem rend_f (a u : Int) : turncockref15_End.f a u = some (win a u * sec u + sec u) := by
  have hs := sec_cases u
  have hw := win_rng a u
  have ha := hold_rng a
  have h0 : 0 ≤ win a u * sec u := Int.mul_nonneg hw.1 (by omega)
  unfold turncockref15_End.f
  rw [rstart_f, rsecs_f]
  simp only [Option.bind_some]
  rw [show wrap64 (win a u * sec u + sec u) = win a u * sec u + sec u from by unfold wrap64; omega]
theorem rdig_l0 (d : Nat) : ∀ (k n : Nat) (acc : List UInt8), n ≤ 4611686018427387904 → n < 10 ^ d → d < k → acc.length + d ≤ 1000 →
    turncockref1_Digits.l0 k (n : Int) ⟨acc.toArray⟩ = some ⟨(Dec.pre n ++ acc).toArray⟩ := by
  induction d with
  | zero =>
    intro k n acc hm hn hk ha
    obtain ⟨k, rfl⟩ : ∃ m, k = m + 1 := ⟨k - 1, by omega⟩
    obtain rfl : n = 0 := by omega
    simp only [turncockref1_Digits.l0]
    rw [if_neg (by omega)]; rfl
  | succ d ih =>
    intro k n acc hm hn hk ha
    obtain ⟨k, rfl⟩ : ∃ m, k = m + 1 := ⟨k - 1, by omega⟩
    by_cases h : n = 0
    · subst h
      simp only [turncockref1_Digits.l0]
      rw [if_neg (by omega)]; rfl
    · simp only [turncockref1_Digits.l0]
      rw [if_pos (by omega), digit_term, quo_term n hm]
      simp only [Option.bind_some]
      have e : strOfNums [((48 + n % 10 : Nat) : Int)] ++ (⟨acc.toArray⟩ : ByteArray) = ⟨(UInt8.ofNat (48 + n % 10) :: acc).toArray⟩ := by
        have e1 : strOfNums [((48 + n % 10 : Nat) : Int)] = ⟨[UInt8.ofNat (48 + n % 10)].toArray⟩ := by
          show (⟨[toB ((48 + n % 10 : Nat) : Int)].toArray⟩ : ByteArray) = _
          rw [toB_nat]
        rw [e1]
        generalize UInt8.ofNat (48 + n % 10) = c
        apply ByteArray.ext
        simp [ByteArray.data_append]
      have hs1 : (strOfNums [((48 + n % 10 : Nat) : Int)]).size = 1 := rfl
      have hs2 : (⟨acc.toArray⟩ : ByteArray).size = acc.length := by show acc.toArray.size = _; simp
      rw [if_pos (by rw [hs1, hs2]; omega), e, ih k (n / 10) _ (by omega) (by rw [Nat.pow_succ] at hn; omega) (by omega) (by simp; omega), Dec.pre_step n h, List.append_assoc]
      rfl
theorem rdigits_f (a : Int) (k : Nat) (hk : 20 < k) : turncockref1_Digits.f k a = some ⟨(Dec.dec (hold a).toNat).toArray⟩ := by
  have ha := hold_rng a
  unfold turncockref1_Digits.f
  rw [rhold_f]
  simp only [Option.bind_some]
  obtain ⟨n, hn⟩ : ∃ n : Nat, hold a = n := ⟨(hold a).toNat, by omega⟩
  rw [hn] at ha ⊢
  rw [Int.toNat_natCast]
  by_cases h : n = 0
  · subst h; rw [if_pos (show ((0 : Nat) : Int) = 0 from rfl), Dec.dec_small 0 (by omega)]; rfl
  · rw [if_neg (by omega)]
    have := rdig_l0 19 k n [] (by omega) (by omega) (by omega) (by simp)
    rw [this, List.append_nil]
    unfold Dec.pre; rw [if_neg h]
theorem rname_f (u : Int) : turncockref15_Unit.f u = some (bts (uname u)) := by
  unfold turncockref15_Unit.f uname
  repeat' split
  all_goals rfl
theorem bar_loop (s : ByteArray) (hn : s.size ≤ 9000000000000000000) (d : Nat) : ∀ i : Nat, i + d = s.size → Ev (fun k => turncockref20_bar.l0 k s (i : Int)) (decide (124 ∈ s.data.toList.drop i)) := by
  induction d with
  | zero =>
    intro i hi
    rw [List.drop_eq_nil_of_le (by rw [size_data]; omega)]
    refine Ev.step (f := fun _ => some false) (fun k => ?_) (Ev.now _)
    simp only [turncockref20_bar.l0]; rw [if_neg (by omega)]
  | succ d ih =>
    intro i hi
    have hlt : i < s.data.toList.length := by rw [size_data]; omega
    have hb := bt_get s i (by omega)
    rw [List.drop_eq_getElem_cons hlt]
    generalize hc : s.data.toList[i] = c at hb
    by_cases h : c = 124
    · rw [decide_eq_true (show 124 ∈ c :: s.data.toList.drop (i + 1) by rw [h]; simp)]
      refine Ev.step (f := fun _ => some true) (fun k => ?_) (Ev.now _)
      simp only [turncockref20_bar.l0]
      rw [if_pos (by omega), if_pos (by omega), if_pos (by rw [hb, h]; rfl)]
    · have e : decide (124 ∈ c :: s.data.toList.drop (i + 1)) = decide (124 ∈ s.data.toList.drop (i + 1)) := by
        rw [decide_eq_decide, List.mem_cons]
        exact ⟨fun q => q.resolve_left (fun q => h q.symm), .inr⟩
      rw [e]
      refine Ev.step (f := fun k => turncockref20_bar.l0 k s ((i + 1 : Nat) : Int)) (fun k => ?_) (ih (i + 1) (by omega))
      have hne : ¬ bt s (i : Int) = 124 := by
        rw [hb]
        intro q
        exact h (by apply UInt8.toNat_inj.1; have : (124 : UInt8).toNat = 124 := rfl; omega)
      simp only [turncockref20_bar.l0]
      rw [if_pos (by omega), if_pos (by omega), if_neg hne, step1 (show i < s.size by omega) hn]
theorem bar_ev (s : ByteArray) (hn : s.size ≤ 9000000000000000000) : Ev (fun k => turncockref20_bar.f k s) (decide (124 ∈ s.data.toList)) := by
  have := bar_loop s hn s.size 0 (Nat.zero_add _)
  rw [List.drop_zero] at this
  exact this
theorem rdigits_ev (now u : Int) : Ev (fun k => turncockref1_Digits.f k (win now u)) (bts (Dec.dec (win now u).toNat)) := by
  have h := win_small now u
  refine ⟨21, fun k hk => ?_⟩
  show turncockref1_Digits.f k (win now u) = _
  rw [rdigits_f _ _ (by omega), hold_in _ h.1 h.2]; rfl
theorem rmake_ev (p : ByteArray) (d : List S47) (u now : Int) (hp : p.size ≤ 1000) (hl : d.length ≤ 3000) (hx : ∀ x ∈ d, x.f0.size ≤ 3000 ∧ x.f1.size ≤ 3000) :
    Ev (fun k => turncockref20_Make.f k p d u now) (made p d u now) := by
  have hx' : ∀ x ∈ d, x.f0.size ≤ 9000000000000000000 := fun x h => by have := (hx x h).1; omega
  have hbad : ∀ r, r = (bts [], 0, false) → Ev (fun k => turncockref20_Make.j0 k p u now true d) r := fun r e => e ▸ Ev.step (f := fun _ => some (bts [], 0, false)) (fun k => by simp only [turncockref20_Make.j0, if_true]; rfl) (Ev.now _)
  unfold turncockref20_Make.f made okK
  by_cases h1 : p.data.toList = []
  · simp only [ByteArray.toList_eq p, h1, if_true, decide_true, Bool.not_true, Bool.false_and, Bool.false_eq_true, if_false]
    exact hbad _ rfl
  · simp only [ByteArray.toList_eq p, h1, if_false, decide_false, Bool.not_false, Bool.true_and]
    refine Ev.bind (bar_ev p (by omega)) ?_
    by_cases h2 : 124 ∈ p.data.toList
    · simp only [h2, if_true, decide_true, Bool.not_true, Bool.false_and, Bool.false_eq_true, if_false]
      exact hbad _ rfl
    · simp only [h2, Bool.false_eq_true, if_false, decide_false, Bool.not_false, Bool.true_and]
      refine Ev.bind (rcheck_ev d (by omega) hx') ?_
      cases hk : ck d with
      | false =>
        simp only [Bool.false_eq_true, if_false, Bool.false_and]
        exact hbad _ rfl
      | true =>
        simp only [if_true, Bool.true_and, rsecs_f, Option.bind_some]
        by_cases h3 : sec u = 0
        · simp only [h3, BEq.rfl, decide_true, Bool.not_true, Bool.false_eq_true, if_false]
          exact hbad _ rfl
        · have h3' : (sec u == 0) = false := beq_eq_false_iff_ne.2 h3
          simp only [h3', h3, decide_false, Bool.not_false, if_true]
          obtain ⟨_, k2, k3⟩ := ck_size hx' hk
          have hz := T_len k3
          have hd := dec_short (win now u).toNat (by have := win_small now u; omega)
          have hu := uname_len u
          have ht := rtext_ev d (by omega) hx'
          rw [hk] at ht
          simp only [if_true] at ht
          obtain ⟨K1, hK1⟩ := ht
          replace hK1 : ∀ k, K1 ≤ k → turncockref1_DescText.f k d = some (bts (T d)) := hK1
          obtain ⟨K2, hK2⟩ := rdigits_ev now u
          replace hK2 : ∀ k, K2 ≤ k → turncockref1_Digits.f k (win now u) = some (bts (Dec.dec (win now u).toNat)) := hK2
          refine ⟨K1 + K2 + 1, fun k hk' => ?_⟩
          obtain ⟨k, rfl⟩ : ∃ m, k = m + 1 := ⟨k - 1, by omega⟩
          show turncockref20_Make.j0 (k + 1) p u now false d = _
          simp only [turncockref20_Make.j0]
          rw [if_neg (by decide), if_pos (by omega), hK1 k (by omega), Option.bind_some, bts_size, if_pos (by omega), if_pos (by omega), rname_f, Option.bind_some, bts_size, if_pos (by omega), if_pos (by omega), rwindow_f, Option.bind_some, hK2 k (by omega), Option.bind_some, bts_size, if_pos (by omega), rend_f, Option.bind_some]
          have e : p ++ (⟨#[124]⟩ : ByteArray) ++ bts (T d) ++ (⟨#[124]⟩ : ByteArray) ++ bts (uname u) ++ (⟨#[124]⟩ : ByteArray) ++ bts (Dec.dec (win now u).toNat) = bts (keyT p.data.toList d u (win now u)) := by
            show p ++ bts [124] ++ bts (T d) ++ bts [124] ++ bts (uname u) ++ bts [124] ++ bts (Dec.dec (win now u).toNat) = _
            rw [show p = bts p.data.toList from (bts_self p).symm]
            simp only [bts_app, bts_data]
            unfold keyT; simp
          rw [e]
theorem bang_at (s : ByteArray) (a b : List UInt8) (j : Nat) (h : s.data.toList = a ++ 124 :: b) (hj : j < s.size) :
    (j = a.length → ((s.data[j]!).toNat : Int) = 124) ∧ (∀ t : Nat, j = a.length + 1 + t → ((s.data[j]!).toNat : Int) = 124 → 124 ∈ b) := by
  have e0 : s.data[j]! = s.data.toList[j]'(by rw [size_data]; exact hj) := by rw [getElem!_pos s.data j hj]; rfl
  refine ⟨fun e => ?_, fun t e h2 => ?_⟩
  · subst e
    rw [e0]
    simp [h]
  · subst e
    rw [e0] at h2
    have e1 : s.data.toList[a.length + 1 + t]'(by rw [size_data]; exact hj) = b[t]'(by rw [← size_data, h, List.length_append, List.length_cons] at hj; omega) := by
      simp only [h]
      rw [List.getElem_append_right (by omega)]
      simp only [show a.length + 1 + t - a.length = t + 1 by omega, List.getElem_cons_succ]
    rw [e1] at h2
    have h3 : b[t]'(by rw [← size_data, h, List.length_append, List.length_cons] at hj; omega) = 124 := by
      apply UInt8.toNat_inj.1
      have : (124 : UInt8).toNat = 124 := rfl
      omega
    rw [← h3]; exact List.getElem_mem _
theorem kcut_hit (s : ByteArray) (a b : List UInt8) (h : s.data.toList = a ++ 124 :: b) (hb : 124 ∉ b) (hn : s.size ≤ 1000000000) : key_cut.f s = some (bts a, bts b, true) := by
  have hz : s.size = a.length + b.length + 1 := by rw [← size_data, h, List.length_append, List.length_cons]; omega
  have hi : Lib.lastIndexByte s 124 = (a.length : Int) := by
    rcases Lib.lastIndexByte_spec s 124 with ⟨_, h2⟩ | ⟨i, hi, e, hc, hno⟩
    · exact absurd ((bang_at s a b a.length h (by omega)).1 rfl) (h2 a.length (by omega))
    · rw [e]
      rcases Nat.lt_trichotomy i a.length with hl | hl | hl
      · exact absurd ((bang_at s a b a.length h (by omega)).1 rfl) (hno a.length hl (by omega))
      · rw [hl]
      · exact absurd ((bang_at s a b i h hi).2 (i - a.length - 1) (by omega) hc) hb
  have e1 : s.extract 0 a.length = bts a := bts_inj (by rw [Lib.extract_from_zero, h, List.take_left' rfl])
  have e2 : s.extract (a.length + 1) s.size = bts b := bts_inj (by rw [Lib.extract_to_end, h, show a ++ 124 :: b = (a ++ [124]) ++ b from by simp, List.drop_left' (by simp)])
  unfold key_cut.f strings_LastIndexByte.f
  rw [if_pos (show s.size < 4611686018427387904 by omega), hi, Option.bind_some, if_neg (by omega), if_pos (by omega), if_pos (by omega), step1 (show a.length < s.size by omega) (by omega), if_pos (by omega), if_pos (by omega)]
  simp only [Int.toNat_natCast]
  rw [e1, e2]
theorem kcut_miss (s : ByteArray) (h : 124 ∉ s.data.toList) (hn : s.size ≤ 1000000000) : key_cut.f s = some (bts [], bts [], false) := by
  have hi : Lib.lastIndexByte s 124 = -1 := by
    rcases Lib.lastIndexByte_spec s 124 with ⟨e, _⟩ | ⟨i, hi, e, hc, hno⟩
    · exact e
    · have e0 : s.data[i]! = s.data.toList[i]'(by rw [size_data]; exact hi) := by rw [getElem!_pos s.data i hi]; rfl
      rw [e0] at hc
      have h3 : s.data.toList[i]'(by rw [size_data]; exact hi) = 124 := by
        apply UInt8.toNat_inj.1
        have : (124 : UInt8).toNat = 124 := rfl
        omega
      exact absurd (by rw [← h3]; exact List.getElem_mem _) h
  unfold key_cut.f strings_LastIndexByte.f
  rw [if_pos (show s.size < 4611686018427387904 by omega), hi, Option.bind_some, if_pos (by omega)]
  rfl
def uof (l : List UInt8) : Int := if l = [115, 101, 99, 111, 110, 100] then 1 else if l = [109, 105, 110, 117, 116, 101] then 2 else if l = [104, 111, 117, 114] then 3 else if l = [100, 97, 121] then 4 else 0
theorem arr_ne {s : ByteArray} {l : List UInt8} (h : ¬ s.data.toList = l) : ¬ s.data = l.toArray := fun e => h (by rw [e])
theorem of_f (s : ByteArray) (k : Nat) : unit_Of.f (k + 8) s = some (uof s.data.toList) := by
  unfold uof
  by_cases h0 : s.data.toList = []
  · simp [unit_Of.f, unit_names.f, slices_Index_string_string.f, slices_Index_string_string.l0, rdOf, h0, ByteArray.toList_eq, mx, wrap64]
  by_cases h1 : s.data.toList = [115, 101, 99, 111, 110, 100]
  · simp [unit_Of.f, unit_names.f, slices_Index_string_string.f, slices_Index_string_string.l0, rdOf, h1, ByteArray.toList_eq, mx, wrap64]
  by_cases h2 : s.data.toList = [109, 105, 110, 117, 116, 101]
  · simp [unit_Of.f, unit_names.f, slices_Index_string_string.f, slices_Index_string_string.l0, rdOf, h2, ByteArray.toList_eq, mx, wrap64]
  by_cases h3 : s.data.toList = [104, 111, 117, 114]
  · simp [unit_Of.f, unit_names.f, slices_Index_string_string.f, slices_Index_string_string.l0, rdOf, h3, ByteArray.toList_eq, mx, wrap64]
  by_cases h4 : s.data.toList = [100, 97, 121]
  · simp [unit_Of.f, unit_names.f, slices_Index_string_string.f, slices_Index_string_string.l0, rdOf, h4, ByteArray.toList_eq, mx, wrap64]
  rw [if_neg h1, if_neg h2, if_neg h3, if_neg h4]
  have q0 := arr_ne h0
  have q1 := arr_ne h1
  have q2 := arr_ne h2
  have q3 := arr_ne h3
  have q4 := arr_ne h4
  simp [unit_Of.f, unit_names.f, slices_Index_string_string.f, slices_Index_string_string.l0, rdOf, q0, q1, q2, q3, q4, ByteArray.toList_eq, mx, wrap64]
theorem of_ev (s : ByteArray) : Ev (fun k => unit_Of.f k s) (uof s.data.toList) := ⟨8, fun k hk => by
  obtain ⟨m, rfl⟩ : ∃ m, k = m + 8 := ⟨k - 8, by omega⟩
  exact of_f s m⟩
theorem uof_name (u : Int) (h : ¬ sec u = 0) : uof (uname u) = u := by
  have hu : u = 1 ∨ u = 2 ∨ u = 3 ∨ u = 4 := by
    unfold sec at h
    by_cases h1 : u = 1
    · exact .inl h1
    by_cases h2 : u = 2
    · exact .inr (.inl h2)
    by_cases h3 : u = 3
    · exact .inr (.inr (.inl h3))
    by_cases h4 : u = 4
    · exact .inr (.inr (.inr h4))
    · rw [if_neg h1, if_neg h2, if_neg h3, if_neg h4] at h; exact absurd rfl h
  rcases hu with rfl | rfl | rfl | rfl <;> rfl
theorem nparse_dec (n : Nat) (h : n ≤ 4611686018427387904) : Ev (fun k => num_Parse.f k (bts (Dec.dec n))) ((n : Int), true) := by
  have hg := dec_good (l := (bts (Dec.dec n)).data.toList) (n := n) rfl h
  refine ⟨(bts (Dec.dec n)).size + 22, fun k hk => ?_⟩
  show num_Parse.f k (bts (Dec.dec n)) = _
  rw [parse_good _ k (by omega) hg.1, hg.2]
theorem dread_T (d : List S47) (hx : ∀ x ∈ d, x.f0.size ≤ 9000000000000000000) (hk : ck d = true) : Ev (fun k => desc_Read.f k (bts (T d))) (d, true) := by
  obtain ⟨k1, k2, k3⟩ := ck_size hx hk
  have hz := T_len k3
  have h := read_ev (bts (T d)) (by rw [bts_size]; omega)
  rw [split_T d (fun e => by rw [e] at k1; simp at k1) (bts (T d)) rfl] at h
  have hf : fin (bts (T d)) d = (d, true) := by unfold fin; rw [if_pos hk, bts_data, if_pos rfl]
  rw [hf] at h
  exact h
theorem okK_parts {p : ByteArray} {d : List S47} {u : Int} (h : okK p d u = true) : ¬ p.data.toList = [] ∧ 124 ∉ p.data.toList ∧ ck d = true ∧ ¬ sec u = 0 := by
  unfold okK at h
  simp only [Bool.and_eq_true, Bool.not_eq_true', decide_eq_false_iff_not] at h
  exact ⟨h.1.1.1, h.1.1.2, h.1.2, h.2⟩
/-- A key that was made is parsed back. -/
theorem kparse_back (p : ByteArray) (d : List S47) (u now : Int) (hp : p.size ≤ 1000) (hx : ∀ x ∈ d, x.f0.size ≤ 9000000000000000000) (hok : okK p d u = true) :
    Ev (fun k => key_Parse.f k (bts (keyT p.data.toList d u (win now u)))) (p, d, u, win now u, true) := by
  obtain ⟨h1, h2, h3, h4⟩ := okK_parts hok
  obtain ⟨_, k2, k3⟩ := ck_size hx h3
  have hz := T_len k3
  have hw := win_small now u
  have hd := dec_short (win now u).toNat (by omega)
  have hu := uname_len u
  have hl : p.data.toList.length = p.size := size_data p
  unfold key_Parse.f
  have c1 : key_cut.f (bts (keyT p.data.toList d u (win now u))) = some (bts (p.data.toList ++ 124 :: (T d ++ 124 :: uname u)), bts (Dec.dec (win now u).toNat), true) :=
    kcut_hit _ _ _ (by rw [bts_data]; unfold keyT; simp) (dec_no _) (by rw [bts_size]; unfold keyT; simp only [List.length_append, List.length_cons]; omega)
  have c2 : key_cut.f (bts (p.data.toList ++ 124 :: (T d ++ 124 :: uname u))) = some (bts (p.data.toList ++ 124 :: T d), bts (uname u), true) :=
    kcut_hit _ _ _ (by rw [bts_data]; simp) (uname_no _) (by rw [bts_size]; simp only [List.length_append, List.length_cons]; omega)
  have c3 : key_cut.f (bts (p.data.toList ++ 124 :: T d)) = some (p, bts (T d), true) := by
    have := kcut_hit (bts (p.data.toList ++ 124 :: T d)) p.data.toList (T d) (by rw [bts_data]) (T_no d) (by rw [bts_size]; simp only [List.length_append, List.length_cons]; omega)
    rw [bts_self] at this
    exact this
  simp only [c1, c2, c3, Option.bind_some]
  have hn := nparse_dec (win now u).toNat (by omega)
  rw [Int.toNat_of_nonneg hw.1] at hn
  refine Ev.bind hn ?_
  refine Ev.bind (dread_T d hx h3) ?_
  refine Ev.bind (of_ev _) ?_
  have hi : ¬ Lib.indexByte p.data.toList 124 ≥ 0 := fun h => h2 ((index_bar_iff p).1 h)
  have hune : ¬ u = 0 := fun e => h4 (by rw [e]; rfl)
  rw [bts_data, uof_name u h4]
  simp only [if_true, hune, if_false, ByteArray.toList_eq p, h1, index_bar, Option.bind_some, hi]
  exact Ev.now _
theorem awake_ev : ∃ K, ∀ k, K ≤ k → turncocklaw25_awake.f k = some true := Ev.of turncocklaw25_awake.mono (k := 40) (by decide +kernel)
theorem mn_size (n : Nat) (h : n ≤ 9223372036854775807) : 0 ≤ mn (n : Int) 2001 ∧ mn (n : Int) 2001 ≤ 2001 ∧ (mn (n : Int) 2001 ≤ 2000 → n ≤ 2000) := by
  unfold mn; split <;> omega
theorem heavy_loop (l : List S47) (hl : l.length ≤ 9000000000000000000) (d : Nat) : ∀ i : Nat, i + d = l.length → ∀ n : Int, 0 ≤ n → n ≤ 9223372036854775807 →
    ∃ b, Ev (fun k => turncocklaw25_heavy.l0 k n (i : Int) l) b ∧ (b = false → n ≤ 2000 ∧ ∀ x ∈ l.drop i, x.f0.size ≤ 2000 ∧ x.f1.size ≤ 2000) := by
  induction d with
  | zero =>
    intro i hi n h0 hn
    refine ⟨decide (n > 2000), Ev.step (f := fun _ => some (decide (n > 2000))) (fun k => ?_) (Ev.now _), fun h => ⟨?_, ?_⟩⟩
    · simp only [turncocklaw25_heavy.l0]; rw [if_neg (by omega)]
    · have := of_decide_eq_false h; omega
    · rw [List.drop_eq_nil_of_le (by omega)]; intro x hx; simp at hx
  | succ d ih =>
    intro i hi n h0 hn
    have hlt : i < l.length := by omega
    by_cases hb : n ≤ 2000
    · have hx : ∀ x : ByteArray, 0 ≤ mn (x.size : Int) 2001 ∧ mn (x.size : Int) 2001 ≤ 2001 ∧ (mn (x.size : Int) 2001 ≤ 2000 → x.size ≤ 2000) := by
        intro x; unfold mn; split <;> omega
      have h1 := hx (l[i]).f0
      have h2 := hx (l[i]).f1
      generalize hm1 : mn ((l[i]).f0.size : Int) 2001 = m1 at h1
      generalize hm2 : mn ((l[i]).f1.size : Int) 2001 = m2 at h2
      obtain ⟨b, hbv, hs⟩ := ih (i + 1) (by omega) (n + m1 + m2) (by omega) (by omega)
      refine ⟨b, Ev.step (fun k => ?_) hbv, fun h => ⟨hb, ?_⟩⟩
      · have w1 : wrap64 (n + m1) = n + m1 := by unfold wrap64; omega
        have w2 : wrap64 (n + m1 + m2) = n + m1 + m2 := by unfold wrap64; omega
        simp only [turncocklaw25_heavy.l0]
        rw [if_pos (by omega), if_pos hb, if_pos (by omega), rd_at hlt, hm1, hm2, w1, w2, step1 hlt hl]
      · have h3 := hs h
        rw [List.drop_eq_getElem_cons hlt]
        intro x hx'
        rcases List.mem_cons.1 hx' with rfl | hx'
        · exact ⟨h1.2.2 (by omega), h2.2.2 (by omega)⟩
        · exact h3.2 x hx'
    · refine ⟨true, Ev.step (f := fun _ => some true) (fun k => ?_) (Ev.now _), fun h => by cases h⟩
      simp only [turncocklaw25_heavy.l0]
      rw [if_pos (by omega), if_neg hb, decide_eq_true (by omega)]
theorem heavy_ev (l : List S47) (hl : l.length ≤ 9000000000000000000) : ∃ b, Ev (fun k => turncocklaw25_heavy.f k l) b ∧ (b = false → l.length ≤ 2000 ∧ ∀ x ∈ l, x.f0.size ≤ 2000 ∧ x.f1.size ≤ 2000) := by
  obtain ⟨b, h1, h2⟩ := heavy_loop l hl l.length 0 (Nat.zero_add _) (l.length : Int) (by omega) (by omega)
  refine ⟨b, h1, fun h => ?_⟩
  have h3 := h2 h
  rw [List.drop_zero] at h3
  exact ⟨by omega, h3.2⟩
theorem heavy_big (l : List S47) (hl : 2000 < l.length) : Ev (fun k => turncocklaw25_heavy.f k l) true := by
  refine Ev.step (f := fun _ => some true) (fun k => ?_) (Ev.now _)
  unfold turncocklaw25_heavy.f
  simp only [turncocklaw25_heavy.l0]
  rw [if_pos (by omega), if_neg (by omega), decide_eq_true (by omega)]
/-- Whatever the length. -/
theorem heavy_any (l : List S47) : ∃ b, Ev (fun k => turncocklaw25_heavy.f k l) b ∧ (b = false → l.length ≤ 2000 ∧ ∀ x ∈ l, x.f0.size ≤ 2000 ∧ x.f1.size ≤ 2000) := by
  by_cases h : 2000 < l.length
  · exact ⟨true, heavy_big l h, fun e => by cases e⟩
  · exact heavy_ev l (by omega)
theorem awake_ev' : Ev (fun k => turncocklaw25_awake.f k) true := by
  obtain ⟨K, hK⟩ := awake_ev
  exact ⟨K, hK⟩
theorem awake_ev2 : Ev (fun k => (turncocklaw25_awake.f k).bind fun t => some t) true := Ev.bind awake_ev' (Ev.now _)
def KeyMakesPure : Prop := ∀ (p : ByteArray) (d : List S47) (u now : Int), p.size ≤ 140737488351232 → (Lit.int .i64 u).wf = true → (Lit.int .i64 now).wf = true → ∃ k, turncocklaw25_KeyMakes.f k p d u now = some true
theorem kmakes_awake (p : ByteArray) (d : List S47) (u now : Int) : Ev (fun k => turncocklaw25_KeyMakes.j0 k p u now true d) true :=
  Ev.step (fun k => by simp only [turncocklaw25_KeyMakes.j0, if_true]) awake_ev2
theorem kmakes_ev (p : ByteArray) (d : List S47) (u now : Int) : Ev (fun k => turncocklaw25_KeyMakes.f k p d u now) true := by
  unfold turncocklaw25_KeyMakes.f
  obtain ⟨b, hb, hs⟩ := heavy_any d
  refine Ev.bind hb ?_
  cases b with
  | true => simp only [if_true]; exact kmakes_awake p d u now
  | false =>
    obtain ⟨h1, h2⟩ := hs rfl
    simp only [Bool.false_eq_true, if_false]
    by_cases hp : (p.size : Int) > 1000
    · rw [decide_eq_true hp]; exact kmakes_awake p d u now
    · rw [decide_eq_false hp]
      have hx' : ∀ x ∈ d, x.f0.size ≤ 9000000000000000000 := fun x h => by have := (h2 x h).1; omega
      refine Ev.step (f := fun k => (key_Make.f k p d u now).bind fun bt273 => ((turncockref20_Make.f k p d u now).bind fun bt276 => (if bt273.1.toList = bt276.1.toList then (if bt273.2.1 = bt276.2.1 then (turncocklaw25_KeyMakes.j1 k p u now bt273.1 bt273.2.2 (bt273.2.2 != bt276.2.2) d) else (turncocklaw25_KeyMakes.j1 k p u now bt273.1 bt273.2.2 true d)) else (turncocklaw25_KeyMakes.j1 k p u now bt273.1 bt273.2.2 true d)))) (fun k => by simp only [turncocklaw25_KeyMakes.j0, Bool.false_eq_true, if_false]) ?_
      refine Ev.bind (kmake_ev p d u now (by omega) (by omega) (fun x h => by have := h2 x h; omega)) ?_
      refine Ev.bind (rmake_ev p d u now (by omega) (by omega) (fun x h => by have := h2 x h; omega)) ?_
      simp only [if_true, bne_self_eq_false]
      cases hok : okK p d u with
      | false =>
        have hm : made p d u now = (bts [], 0, false) := by unfold made; rw [hok]; rfl
        rw [hm]
        exact Ev.step (fun k => by simp only [turncocklaw25_KeyMakes.j1, Bool.false_eq_true, if_false]) awake_ev2
      | true =>
        have hm : made p d u now = (bts (keyT p.data.toList d u (win now u)), win now u * sec u + sec u, true) := by unfold made; rw [hok]; rfl
        rw [hm]
        refine Ev.step (f := fun k => (key_Parse.f k (bts (keyT p.data.toList d u (win now u)))).bind fun bt280 => (if bt280.2.2.2.2 = true then (if bt280.1.toList = p.toList then ((turncockref1_SameDesc.f k bt280.2.1 d).bind fun t288 => (if t288 = true then (if bt280.2.2.1 = u then ((turncockref15_Window.f now u).bind fun t289 => (if bt280.2.2.2.1 = t289 then ((turncocklaw25_awake.f k).bind fun t290 => (some t290)) else (some false))) else (some false)) else (some false))) else (some false)) else (some false))) (fun k => by simp only [turncocklaw25_KeyMakes.j1, Bool.false_eq_true, if_false, if_true]) ?_
        refine Ev.bind (kparse_back p d u now (by omega) hx' hok) ?_
        simp only [if_true]
        refine Ev.bind (same_ev d (by omega)) ?_
        simp only [if_true, rwindow_f, Option.bind_some]
        exact awake_ev2
theorem KeyMakes : KeyMakesPure := fun p d u now _ _ _ => (kmakes_ev p d u now).rounds

end Go.Proofs.YtpemmaffbcbcjaaDoor.Pure
