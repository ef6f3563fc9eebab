/- KeyParses: of any text what it is the key of, or that it is none, is as the document says; the tables of Go's library that the row lists are tied by the card. -/
import Derived.Test.YtpemmaffbcbcjaaDoorPKeyParsesx10
import Derived.Test.YtpemmaffbcbcjaaDoorDec
set_option linter.unusedSimpArgs false
set_option linter.unusedVariables false
namespace Go.Proofs.YtpemmaffbcbcjaaDoor.Pure
open Go.RowKit Go.Proofs.YtpemmaffbcbcjaaDoor.PKeyParses Go.Proofs.YtpemmaffbcbcjaaDoorW.PrintWords Go.Proofs.YtpemmaffbcbcjaaDoorW.PrintLast Go.Proofs.YtpemmaffbcbcjaaDoorW.PrintMore
open Go.Proofs.YtpemmaffbcbcjaaDoor

theorem step1 {i n : Nat} (h : i < n) (hn : n ≤ 9000000000000000000) : wrap64 ((i : Int) + 1) = ((i + 1 : Nat) : Int) := by unfold wrap64; omega
theorem name_both (s : ByteArray) (hn : s.size ≤ 9000000000000000000) (d : Nat) : ∀ i : Nat, i + d = s.size →
    ∃ b : Bool, ∀ k, d < k → turncockref1_Name.l0 k s (i : Int) = some b ∧ desc_Name.l0 k s (s.size : Int) (i : Int) = some (b && (decide (1 ≤ s.size) && decide (s.size ≤ 64))) := by
  induction d with
  | zero =>
    intro i hi
    refine ⟨true, fun k hk => ?_⟩
    obtain ⟨k, rfl⟩ : ∃ m, k = m + 1 := ⟨k - 1, by omega⟩
    simp only [turncockref1_Name.l0, desc_Name.l0]
    rw [if_neg (by omega), if_neg (by omega)]
    refine ⟨rfl, ?_⟩
    by_cases h : (s.size : Int) ≥ 1
    · rw [if_pos h, decide_eq_true (show 1 ≤ s.size by omega), Bool.true_and, Bool.true_and]
      congr 1; rw [decide_eq_decide]; omega
    · rw [if_neg h, decide_eq_false (show ¬ 1 ≤ s.size by omega)]; rfl
  | succ d ih =>
    intro i hi
    by_cases h1 : bt s (i : Int) < 33
    · refine ⟨false, fun k hk => ?_⟩
      obtain ⟨k, rfl⟩ : ∃ m, k = m + 1 := ⟨k - 1, by omega⟩
      simp only [turncockref1_Name.l0, desc_Name.l0]
      rw [if_pos (by omega), if_pos (by omega), if_pos h1, if_pos (by omega), if_pos (by omega), if_pos (by omega), if_pos h1]
      exact ⟨rfl, rfl⟩
    · by_cases h2 : bt s (i : Int) > 126
      · refine ⟨false, fun k hk => ?_⟩
        obtain ⟨k, rfl⟩ : ∃ m, k = m + 1 := ⟨k - 1, by omega⟩
        simp only [turncockref1_Name.l0, desc_Name.l0]
        rw [if_pos (by omega), if_pos (by omega), if_neg h1, if_pos h2, if_pos (by omega), if_pos (by omega), if_pos (by omega), if_neg h1, if_pos h2]
        exact ⟨rfl, rfl⟩
      · obtain ⟨b, hb⟩ := ih (i + 1) (by omega)
        refine ⟨b, fun k hk => ?_⟩
        obtain ⟨k, rfl⟩ : ∃ m, k = m + 1 := ⟨k - 1, by omega⟩
        simp only [turncockref1_Name.l0, desc_Name.l0]
        rw [if_pos (by omega), if_pos (by omega), if_neg h1, if_neg h2, if_pos (by omega), if_pos (by omega), if_pos (by omega), if_neg h1, if_neg h2, step1 (show i < s.size by omega) hn]
        exact hb k (by omega)
/-- Is a text a name: both functions tell the same. -/
theorem name_same (s : ByteArray) (hn : s.size ≤ 9000000000000000000) : ∃ b : Bool, (b = true → s.size ≤ 64) ∧ ∀ k, s.size + 1 < k → turncockref1_Name.f k s = some b ∧ desc_Name.f k s = some b := by
  obtain ⟨b, hb⟩ := name_both s hn s.size 0 (by omega)
  refine ⟨b && (decide (1 ≤ s.size) && decide (s.size ≤ 64)), fun h => by simp at h; omega, fun k hk => ⟨?_, (hb k (by omega)).2⟩⟩
  obtain ⟨k, rfl⟩ : ∃ m, k = m + 1 := ⟨k - 1, by omega⟩
  unfold turncockref1_Name.f
  by_cases h1 : (s.size : Int) < 1
  · rw [if_pos h1]
    simp only [turncockref1_Name.j0]
    rw [decide_eq_false (show ¬ 1 ≤ s.size by omega)]
    simp
  · rw [if_neg h1]
    by_cases h2 : (s.size : Int) > 64
    · rw [decide_eq_true h2]
      simp only [turncockref1_Name.j0]
      rw [decide_eq_false (show ¬ s.size ≤ 64 by omega)]
      simp
    · rw [decide_eq_false h2]
      simp only [turncockref1_Name.j0]
      rw [decide_eq_true (show 1 ≤ s.size by omega), decide_eq_true (show s.size ≤ 64 by omega), if_neg (by decide)]
      have := (hb k (by omega)).1
      simp only [Bool.and_true]
      exact this
theorem one_back : ∀ n : Fin 256, (desc_Escape.one (UInt8.ofNat n.val) = [UInt8.ofNat n.val] ∧ UInt8.ofNat n.val ≠ 37) ∨ (∃ a b, desc_Escape.one (UInt8.ofNat n.val) = [37, a, b] ∧ desc_plainly.val a b = UInt8.ofNat n.val) := by
  have h : ∀ n : Fin 256, (desc_Escape.one (UInt8.ofNat n.val) = [UInt8.ofNat n.val] ∧ UInt8.ofNat n.val ≠ 37) ∨ (desc_Escape.one (UInt8.ofNat n.val) = [37, desc_Escape.HEX.getD (n.val / 16) 0, desc_Escape.HEX.getD (n.val % 16) 0] ∧ desc_plainly.val (desc_Escape.HEX.getD (n.val / 16) 0) (desc_Escape.HEX.getD (n.val % 16) 0) = UInt8.ofNat n.val) := by decide +kernel
  intro n
  rcases h n with h | ⟨h1, h2⟩
  · exact .inl h
  · exact .inr ⟨_, _, h1, h2⟩
theorem one_back' (c : UInt8) : (desc_Escape.one c = [c] ∧ c ≠ 37) ∨ (∃ a b, desc_Escape.one c = [37, a, b] ∧ desc_plainly.val a b = c) := by
  have h := one_back ⟨c.toNat, c.toNat_lt⟩
  simpa using h
theorem one_good (c : UInt8) : ∀ b ∈ desc_Escape.one c, b.toNat ≠ 44 ∧ b.toNat ≠ 61 ∧ b.toNat ≠ 124 ∧ 32 < b.toNat ∧ b.toNat ≤ 126 := by
  have h : ∀ n : Fin 256, ∀ b ∈ desc_Escape.one (UInt8.ofNat n.val), b.toNat ≠ 44 ∧ b.toNat ≠ 61 ∧ b.toNat ≠ 124 ∧ 32 < b.toNat ∧ b.toNat ≤ 126 := by decide +kernel
  have := h ⟨c.toNat, c.toNat_lt⟩
  simpa using this
theorem all_cons (c : UInt8) (l : List UInt8) : desc_Escape.all (c :: l) = desc_Escape.one c ++ desc_Escape.all l := rfl
theorem all_good (l : List UInt8) : ∀ b ∈ desc_Escape.all l, b.toNat ≠ 44 ∧ b.toNat ≠ 61 ∧ b.toNat ≠ 124 ∧ 32 < b.toNat ∧ b.toNat ≤ 126 := by
  intro b hb
  obtain ⟨c, _, hc⟩ := List.mem_flatMap.1 hb
  exact one_good c b hc
/-- A text escaped, made plain, is that text. -/
theorem un (l : List UInt8) : desc_plainly.all (desc_Escape.all l) = l := by
  induction l with
  | nil => exact desc_plainly.all_nil
  | cons c l ih =>
    rw [all_cons]
    rcases one_back' c with ⟨h1, h2⟩ | ⟨a, b, h1, h2⟩
    · rw [h1]
      show desc_plainly.all (c :: desc_Escape.all l) = _
      rw [desc_plainly.all_plain c _ (fun h => h2 h.1), ih]
    · rw [h1]
      show desc_plainly.all (37 :: a :: b :: desc_Escape.all l) = _
      rw [desc_plainly.all_esc, ih, h2]
theorem esc_eq (a b : List UInt8) : (desc_Escape.all a = desc_Escape.all b) ↔ a = b := ⟨fun h => by rw [← un a, h, un], fun h => by rw [h]⟩
def nm (s : ByteArray) : Bool := (desc_Name.f (s.size + 2) s).getD false
theorem nm_same (s : ByteArray) (hn : s.size ≤ 9000000000000000000) : (nm s = true → s.size ≤ 64) ∧ ∀ k, s.size + 1 < k → turncockref1_Name.f k s = some (nm s) ∧ desc_Name.f k s = some (nm s) := by
  obtain ⟨b, h1, h2⟩ := name_same s hn
  have e : nm s = b := by unfold nm; rw [(h2 (s.size + 2) (by omega)).2]; rfl
  rw [e]; exact ⟨h1, h2⟩
theorem nm_ev (s : ByteArray) (hn : s.size ≤ 9000000000000000000) : Ev (fun k => desc_Name.f k s) (nm s) := ⟨s.size + 2, fun k hk => ((nm_same s hn).2 k (by omega)).2⟩
theorem rnm_ev (s : ByteArray) (hn : s.size ≤ 9000000000000000000) : Ev (fun k => turncockref1_Name.f k s) (nm s) := ⟨s.size + 2, fun k hk => ((nm_same s hn).2 k (by omega)).1⟩
def okE (x : S47) : Bool := nm x.f0 && decide (x.f1.size ≤ 128)
def ck (l : List S47) : Bool := decide (1 ≤ l.length) && decide (l.length ≤ 8) && l.all okE
theorem rd_at {l : List S47} {i : Nat} (h : i < l.length) : rd_T47 l (i : Int) = l[i] := by
  unfold rd_T47; rw [Int.toNat_natCast, List.getD_eq_getElem?_getD, List.getElem?_eq_getElem h]; rfl
theorem check_loop (l : List S47) (hl : l.length ≤ 9000000000000000000) (hx : ∀ x ∈ l, x.f0.size ≤ 9000000000000000000) (d : Nat) : ∀ i : Nat, i + d = l.length →
    Ev (fun k => desc_Check.l0 k l (l.length : Int) (i : Int)) (if (l.drop i).all okE = true then 0 else 1) := by
  induction d with
  | zero =>
    intro i hi
    refine Ev.step (f := fun _ => some 0) (fun k => ?_) ?_
    · simp only [desc_Check.l0]; rw [if_neg (by omega)]
    · rw [List.drop_eq_nil_of_le (by omega)]; exact Ev.now 0
  | succ d ih =>
    intro i hi
    have hlt : i < l.length := by omega
    refine Ev.step (f := fun k => (desc_Name.f k (l[i]).f0).bind fun t => if t = true then (if ((l[i]).f1.size : Int) > 128 then some 1 else desc_Check.l0 k l (l.length : Int) ((i + 1 : Nat) : Int)) else some 1) (fun k => ?_) ?_
    · simp only [desc_Check.l0]
      rw [if_pos (by omega), if_pos (by omega), if_pos (by omega), rd_at hlt, step1 hlt hl]
    · refine Ev.bind (nm_ev _ (hx _ (List.getElem_mem hlt))) ?_
      rw [List.drop_eq_getElem_cons hlt, List.all_cons]
      unfold okE
      by_cases h : nm (l[i]).f0 = true
      · by_cases h2 : ((l[i]).f1.size : Int) > 128
        · have h3 : ¬ (l[i]).f1.size ≤ 128 := by omega
          simp only [h, h2, h3, if_true, decide_false, Bool.and_false, Bool.false_and]
          exact Ev.now _
        · have h3 : (l[i]).f1.size ≤ 128 := by omega
          simp only [h, h2, h3, if_true, if_false, decide_true, Bool.and_true, Bool.true_and]
          exact ih (i + 1) (by omega)
      · simp only [Bool.not_eq_true] at h
        simp only [h, Bool.false_eq_true, if_false, Bool.false_and]
        exact Ev.now _
theorem check_ev (l : List S47) (hl : l.length ≤ 9000000000000000000) (hx : ∀ x ∈ l, x.f0.size ≤ 9000000000000000000) :
    Ev (fun k => desc_Check.f k l) (if ck l = true then 0 else 1) := by
  have hc := check_loop l hl hx l.length 0 (by omega)
  unfold desc_Check.f ck
  by_cases h1 : (l.length : Int) < 1
  · simp only [h1, if_true]
    refine Ev.step (f := fun _ => some 1) (fun k => by simp only [desc_Check.j0, if_true]) ?_
    rw [decide_eq_false (show ¬ 1 ≤ l.length by omega)]
    exact Ev.now 1
  · simp only [h1, if_false]
    rw [decide_eq_true (show 1 ≤ l.length by omega)]
    by_cases h2 : (l.length : Int) > 8
    · refine Ev.step (f := fun _ => some 1) (fun k => by simp only [desc_Check.j0, h2, decide_true, if_true]) ?_
      rw [decide_eq_false (show ¬ l.length ≤ 8 by omega)]
      exact Ev.now 1
    · refine Ev.step (f := fun k => desc_Check.l0 k l (l.length : Int) ((0 : Nat) : Int)) (fun k => by simp only [desc_Check.j0, h2, decide_false, Bool.false_eq_true, if_false]; rfl) ?_
      rw [decide_eq_true (show l.length ≤ 8 by omega), Bool.true_and, Bool.true_and]
      exact hc
/-- What a descriptor that may be is bounded by. -/
theorem ck_size {l : List S47} (hx : ∀ x ∈ l, x.f0.size ≤ 9000000000000000000) (h : ck l = true) : 1 ≤ l.length ∧ l.length ≤ 8 ∧ ∀ x ∈ l, x.f0.size ≤ 64 ∧ x.f1.size ≤ 128 := by
  unfold ck at h
  simp only [Bool.and_eq_true, decide_eq_true_eq, List.all_eq_true] at h
  refine ⟨h.1.1, h.1.2, fun x hm => ?_⟩
  have h2 := h.2 x hm
  unfold okE at h2
  simp only [Bool.and_eq_true, decide_eq_true_eq] at h2
  exact ⟨(nm_same x.f0 (hx x hm)).1 h2.1, h2.2⟩
def bts (l : List UInt8) : ByteArray := ⟨l.toArray⟩
theorem bts_toList (l : List UInt8) : (bts l).toList = l := by rw [ByteArray.toList_eq]; rfl
theorem bts_data (l : List UInt8) : (bts l).data.toList = l := rfl
theorem bts_size (l : List UInt8) : (bts l).size = l.length := by simp [bts, ByteArray.size]
theorem bts_app (l m : List UInt8) : bts l ++ bts m = bts (l ++ m) := by
  apply ByteArray.ext
  simp [bts, ByteArray.data_append]
theorem bts_self (s : ByteArray) : bts s.data.toList = s := by cases s; rfl
theorem bts_inj {s : ByteArray} {l : List UInt8} (h : s.data.toList = l) : s = bts l := by rw [← h, bts_self]
def ent (x : S47) : List UInt8 := desc_Escape.all x.f0.data.toList ++ 61 :: desc_Escape.all x.f1.data.toList
def TT (l : List S47) : List UInt8 := l.flatMap fun y => 44 :: ent y
def T : List S47 → List UInt8
  | [] => []
  | x :: l => ent x ++ TT l
theorem T_join : ∀ l : List S47, Lib.join (l.map ent) [44] = T l
  | [] => rfl
  | [x] => by simp [Lib.join, T, TT, List.intercalate]
  | x :: y :: l => by
    have h := T_join (y :: l)
    unfold Lib.join at h ⊢
    rw [List.map_cons, List.map_cons] at *
    rw [show ([44] : List UInt8).intercalate (ent x :: ent y :: l.map ent) = ent x ++ ([44] ++ ([44] : List UInt8).intercalate (ent y :: l.map ent)) from by simp [List.intercalate, List.intersperse]]
    rw [h]
    simp [T, TT]
theorem ent_len {x : S47} (h : x.f0.size ≤ 64 ∧ x.f1.size ≤ 128) : (ent x).length ≤ 600 := by
  have h1 := desc_Escape.all_len x.f0.data.toList
  have h2 := desc_Escape.all_len x.f1.data.toList
  have e1 : x.f0.data.toList.length = x.f0.size := by simp
  have e2 : x.f1.data.toList.length = x.f1.size := by simp
  unfold ent; rw [List.length_append, List.length_cons]; omega
theorem TT_len : ∀ {l : List S47}, (∀ x ∈ l, x.f0.size ≤ 64 ∧ x.f1.size ≤ 128) → (TT l).length ≤ 601 * l.length
  | [], _ => by simp [TT]
  | x :: l, h => by
    have h1 := ent_len (h x (by simp))
    have h2 := TT_len (l := l) (fun y hy => h y (by simp [hy]))
    unfold TT at *
    rw [List.flatMap_cons, List.length_append, List.length_cons, List.length_cons]; omega
theorem T_len {l : List S47} (h : ∀ x ∈ l, x.f0.size ≤ 64 ∧ x.f1.size ≤ 128) : (T l).length ≤ 601 * l.length := by
  cases l with
  | nil => simp [T]
  | cons x l =>
    have h1 := ent_len (h x (by simp))
    have h2 := TT_len (l := l) (fun y hy => h y (by simp [hy]))
    unfold T; rw [List.length_append, List.length_cons]; omega
theorem esc_f (s : ByteArray) (h : s.size ≤ 1099511627776) : desc_Escape.f s = some (bts (desc_Escape.all s.data.toList)) := by unfold desc_Escape.f; rw [if_pos h]; rfl
theorem text_loop (l : List S47) (hl : l.length ≤ 8) (hx : ∀ x ∈ l, x.f0.size ≤ 64 ∧ x.f1.size ≤ 128) (d : Nat) : ∀ i : Nat, i + d = l.length →
    Ev (fun k => desc_Text.l0 k ((l.take i).map fun x => bts (ent x)) l (l.length : Int) (i : Int)) (bts (T l)) := by
  induction d with
  | zero =>
    intro i hi
    have hj : strings_Join.f ((l.take i).map fun x => bts (ent x)) ⟨#[44]⟩ = some (bts (T l)) := by
      rw [List.take_of_length_le (by omega)]
      have e : ((l.map fun x => bts (ent x)).map fun s => s.data.toList) = l.map ent := by rw [List.map_map]; rfl
      have hz := T_len hx
      unfold strings_Join.f
      rw [show (⟨#[44]⟩ : ByteArray).data.toList = [44] from rfl, e, T_join, if_pos ⟨by omega, by rw [List.length_map]; omega⟩]
      rfl
    refine Ev.step (f := fun _ => some (bts (T l))) (fun k => ?_) (Ev.now _)
    simp only [desc_Text.l0]; rw [if_neg (by omega), hj]; rfl
  | succ d ih =>
    intro i hi
    have hlt : i < l.length := by omega
    have hb := hx _ (List.getElem_mem hlt)
    have h1 := desc_Escape.all_len (l[i]).f0.data.toList
    have h2 := desc_Escape.all_len (l[i]).f1.data.toList
    have e1 : (l[i]).f0.data.toList.length = (l[i]).f0.size := by simp
    have e2 : (l[i]).f1.data.toList.length = (l[i]).f1.size := by simp
    refine Ev.step (f := fun k => desc_Text.l0 k ((l.take (i + 1)).map fun x => bts (ent x)) l (l.length : Int) ((i + 1 : Nat) : Int)) (fun k => ?_) (ih (i + 1) (by omega))
    simp only [desc_Text.l0]
    rw [if_pos (by omega), if_pos (by omega), if_pos (by omega), rd_at hlt, esc_f _ (by omega), esc_f _ (by omega)]
    simp only [Option.bind_some, bts_size]
    rw [if_pos (by omega), if_pos (by omega), if_pos (by rw [List.length_map, List.length_take]; omega), step1 hlt (by omega)]
    congr 1
    rw [List.take_succ_eq_append_getElem hlt, List.map_append]
    congr 1
    show [bts _ ++ bts [61] ++ bts _] = [bts _]
    rw [bts_app, bts_app]
    unfold ent; simp
theorem text_ev (l : List S47) (hl : l.length ≤ 9000000000000000000) (hx : ∀ x ∈ l, x.f0.size ≤ 9000000000000000000) :
    Ev (fun k => desc_Text.f k l) (bts (if ck l = true then T l else [])) := by
  unfold desc_Text.f
  refine Ev.bind (check_ev l hl hx) ?_
  cases h : ck l with
  | true =>
    have hs := ck_size hx h
    simp only [if_true]
    exact text_loop l hs.2.1 hs.2.2 l.length 0 (by omega)
  | false =>
    simp only [Bool.false_eq_true, if_false]
    exact Ev.now _
theorem rcheck_loop (l : List S47) (hl : l.length ≤ 9000000000000000000) (hx : ∀ x ∈ l, x.f0.size ≤ 9000000000000000000) (d : Nat) : ∀ i : Nat, i + d = l.length →
    Ev (fun k => turncockref1_CheckDesc.l0 k (i : Int) l) ((l.drop i).all okE) := by
  induction d with
  | zero =>
    intro i hi
    refine Ev.step (f := fun _ => some true) (fun k => ?_) ?_
    · simp only [turncockref1_CheckDesc.l0]; rw [if_neg (by omega)]
    · rw [List.drop_eq_nil_of_le (by omega)]; exact Ev.now true
  | succ d ih =>
    intro i hi
    have hlt : i < l.length := by omega
    refine Ev.step (f := fun k => (turncockref1_Name.f k (l[i]).f0).bind fun t => if t = true then (if ((l[i]).f1.size : Int) > 128 then some false else turncockref1_CheckDesc.l0 k ((i + 1 : Nat) : Int) l) else some false) (fun k => ?_) ?_
    · simp only [turncockref1_CheckDesc.l0]
      rw [if_pos (by omega), if_pos (by omega), rd_at hlt, step1 hlt hl]
    · refine Ev.bind (rnm_ev _ (hx _ (List.getElem_mem hlt))) ?_
      rw [List.drop_eq_getElem_cons hlt, List.all_cons]
      unfold okE
      by_cases h : nm (l[i]).f0 = true
      · by_cases h2 : ((l[i]).f1.size : Int) > 128
        · have h3 : ¬ (l[i]).f1.size ≤ 128 := by omega
          simp only [h, h2, h3, if_true, decide_false, Bool.and_false, Bool.false_and]
          exact Ev.now _
        · have h3 : (l[i]).f1.size ≤ 128 := by omega
          simp only [h, h2, h3, if_true, if_false, decide_true, Bool.and_true, Bool.true_and]
          exact ih (i + 1) (by omega)
      · simp only [Bool.not_eq_true] at h
        simp only [h, Bool.false_eq_true, if_false, Bool.false_and]
        exact Ev.now _
theorem rcheck_ev (l : List S47) (hl : l.length ≤ 9000000000000000000) (hx : ∀ x ∈ l, x.f0.size ≤ 9000000000000000000) :
    Ev (fun k => turncockref1_CheckDesc.f k l) (ck l) := by
  have hc := rcheck_loop l hl hx l.length 0 (by omega)
  unfold turncockref1_CheckDesc.f ck
  by_cases h1 : (l.length : Int) < 1
  · simp only [h1, if_true]
    refine Ev.step (f := fun _ => some false) (fun k => by simp only [turncockref1_CheckDesc.j0, if_true]) ?_
    rw [decide_eq_false (show ¬ 1 ≤ l.length by omega)]
    exact Ev.now false
  · simp only [h1, if_false]
    rw [decide_eq_true (show 1 ≤ l.length by omega)]
    by_cases h2 : (l.length : Int) > 8
    · refine Ev.step (f := fun _ => some false) (fun k => by simp only [turncockref1_CheckDesc.j0, h2, decide_true, if_true]) ?_
      rw [decide_eq_false (show ¬ l.length ≤ 8 by omega)]
      exact Ev.now false
    · refine Ev.step (f := fun k => turncockref1_CheckDesc.l0 k ((0 : Nat) : Int) l) (fun k => by simp only [turncockref1_CheckDesc.j0, h2, decide_false, Bool.false_eq_true, if_false]; rfl) ?_
      rw [decide_eq_true (show l.length ≤ 8 by omega), Bool.true_and, Bool.true_and]
      exact hc
theorem resc_f (s : ByteArray) (h : s.size ≤ 1099511627776) : turncockref1_Escape.f s = some (bts (desc_Escape.all s.data.toList)) := by unfold turncockref1_Escape.f; rw [if_pos h]; rfl
theorem rtext_loop (l : List S47) (hl : l.length ≤ 8) (hx : ∀ x ∈ l, x.f0.size ≤ 64 ∧ x.f1.size ≤ 128) (d : Nat) : ∀ i : Nat, i + d = l.length → 1 ≤ i → ∀ acc : List UInt8, acc.length ≤ 601 * i →
    Ev (fun k => turncockref1_DescText.l0 k (bts acc) (i : Int) l) (bts (acc ++ TT (l.drop i))) := by
  induction d with
  | zero =>
    intro i hi _ acc ha
    rw [List.drop_eq_nil_of_le (by omega), show TT [] = [] from rfl, List.append_nil]
    refine Ev.step (f := fun _ => some (bts acc)) (fun k => ?_) (Ev.now _)
    simp only [turncockref1_DescText.l0]; rw [if_neg (by omega)]
  | succ d ih =>
    intro i hi hi1 acc ha
    have hlt : i < l.length := by omega
    have hb := hx _ (List.getElem_mem hlt)
    have h1 := desc_Escape.all_len (l[i]).f0.data.toList
    have h2 := desc_Escape.all_len (l[i]).f1.data.toList
    have e1 : (l[i]).f0.data.toList.length = (l[i]).f0.size := by simp
    have e2 : (l[i]).f1.data.toList.length = (l[i]).f1.size := by simp
    have he := ent_len hb
    rw [List.drop_eq_getElem_cons hlt]
    have hT : ∀ (y : S47) (m : List S47), acc ++ TT (y :: m) = (acc ++ 44 :: ent y) ++ TT m := fun y m => by simp [TT]
    rw [hT]
    have hq : (acc ++ 44 :: ent l[i]).length ≤ 601 * (i + 1) := by rw [List.length_append, List.length_cons]; omega
    refine Ev.step (f := fun k => turncockref1_DescText.l0 k (bts (acc ++ 44 :: ent l[i])) ((i + 1 : Nat) : Int) l) (fun k => ?_) (ih (i + 1) (by omega) (by omega) _ hq)
    simp only [turncockref1_DescText.l0]
    rw [if_pos (by omega), if_pos (by omega), if_pos (by rw [bts_size]; omega), if_pos (by omega), rd_at hlt, resc_f _ (by omega), resc_f _ (by omega)]
    simp only [Option.bind_some, bts_size]
    rw [if_pos (by omega), if_pos (by omega), if_pos (by omega), step1 hlt (by omega)]
    congr 1
    show bts _ ++ bts [44] ++ bts _ ++ bts [61] ++ bts _ = bts _
    rw [bts_app, bts_app, bts_app, bts_app]
    unfold ent; simp
theorem rtext_ev (l : List S47) (hl : l.length ≤ 9000000000000000000) (hx : ∀ x ∈ l, x.f0.size ≤ 9000000000000000000) :
    Ev (fun k => turncockref1_DescText.f k l) (bts (if ck l = true then T l else [])) := by
  unfold turncockref1_DescText.f
  refine Ev.bind (rcheck_ev l hl hx) ?_
  cases h : ck l with
  | false =>
    simp only [Bool.false_eq_true, if_false]
    exact Ev.now _
  | true =>
    obtain ⟨hs1, hs2, hs⟩ := ck_size hx h
    simp only [if_true]
    cases l with
    | nil => simp at hs1
    | cons x l =>
      have hb := hs x (by simp)
      have h1 := desc_Escape.all_len x.f0.data.toList
      have h2 := desc_Escape.all_len x.f1.data.toList
      have e1 : x.f0.data.toList.length = x.f0.size := by simp
      have e2 : x.f1.data.toList.length = x.f1.size := by simp
      have he := ent_len hb
      refine Ev.step (f := fun k => turncockref1_DescText.l0 k (bts (ent x)) ((1 : Nat) : Int) (x :: l)) (fun k => ?_) (rtext_loop (x :: l) hs2 hs l.length 1 (by rw [List.length_cons]; omega) (by omega) _ (by omega))
      simp only [turncockref1_DescText.l0]
      rw [if_pos (by rw [List.length_cons]; omega), if_neg (by omega), if_pos (by omega), show rd_T47 (x :: l) 0 = x from rfl, resc_f _ (by omega), resc_f _ (by omega)]
      simp only [Option.bind_some, bts_size]
      rw [if_pos (by show 0 + _ ≤ _; omega), if_pos (by show 0 + _ + 1 ≤ _; omega), if_pos (by show 0 + _ + 1 + _ ≤ _; omega)]
      show turncockref1_DescText.l0 k (bts [] ++ bts _ ++ bts [61] ++ bts _) _ _ = _
      rw [bts_app, bts_app, bts_app]
      unfold ent; simp [wrap64]
theorem Ev.uniq {α : Type} {g : Nat → Option α} {a b : α} (ha : Ev g a) (hb : Ev g b) : a = b := by
  obtain ⟨K, hK⟩ := ha
  obtain ⟨L, hL⟩ := hb
  have h1 := hK (K + L) (by omega)
  rw [hL (K + L) (by omega)] at h1
  exact (Option.some.inj h1).symm
theorem index_at (c : UInt8) : ∀ (a b : List UInt8), c ∉ a → Lib.index (a ++ c :: b) [c] = (a.length : Int)
  | [], b, _ => by unfold Lib.index; simp
  | x :: a, b, h => by
    have hx : ¬ c = x := fun e => h (by simp [e])
    have ih := index_at c a b (fun hm => h (by simp [hm]))
    show Lib.index (x :: (a ++ c :: b)) [c] = _
    unfold Lib.index
    rw [ih]
    have e1 : ((a.length : Int) == -1) = false := by rw [beq_eq_false_iff_ne]; omega
    simp [hx, e1]
theorem index_miss (c : UInt8) : ∀ (a : List UInt8), c ∉ a → Lib.index a [c] = -1
  | [], _ => rfl
  | x :: a, h => by
    have hx : ¬ c = x := fun e => h (by simp [e])
    have ih := index_miss c a (fun hm => h (by simp [hm]))
    unfold Lib.index
    rw [ih]
    simp [hx]
theorem cut_at (c : UInt8) (a b : List UInt8) (h : c ∉ a) : Lib.cut (a ++ c :: b) [c] = (a, b, true) := by
  unfold Lib.cut
  rw [index_at c a b h, if_pos (by omega)]
  simp
theorem cut_len (l sep : List UInt8) : (Lib.cut l sep).1.length ≤ l.length ∧ (Lib.cut l sep).2.1.length ≤ l.length := by
  unfold Lib.cut
  split
  · exact ⟨by rw [List.length_take]; omega, by rw [List.length_drop]; omega⟩
  · exact ⟨Nat.le_refl _, by simp⟩
theorem plainly_len : ∀ (n : Nat) (l : List UInt8), l.length ≤ n → (desc_plainly.all l).length ≤ l.length
  | _, [], _ => by rw [desc_plainly.all_nil]; exact Nat.le_refl _
  | 0, c :: t, h => by simp at h
  | n + 1, c :: t, h => by
    by_cases hc : c = 37 ∧ 2 ≤ t.length
    · obtain ⟨rfl, h2⟩ := hc
      match t, h2 with
      | a :: b :: t, _ =>
        rw [desc_plainly.all_esc, List.length_cons, List.length_cons, List.length_cons, List.length_cons]
        have := plainly_len n t (by simp at h; omega)
        omega
    · rw [desc_plainly.all_plain c t hc, List.length_cons, List.length_cons]
      have := plainly_len n t (by simp at h; omega)
      omega
theorem extract_size_le (s : ByteArray) (a b : Nat) : (s.extract a b).size ≤ s.size := by rw [ByteArray.size_extract]; omega
theorem split_size (sep : ByteArray) : ∀ (k : Nat) (s : ByteArray), ∀ p ∈ Lib.splitB sep 0 k s, p.size ≤ s.size
  | 0, s, p, hp => by rw [Lib.splitB_zero] at hp; simp at hp; rw [hp]; exact Nat.le_refl _
  | k + 1, s, p, hp => by
    unfold Lib.splitB at hp
    split at hp
    · simp at hp; rw [hp]; exact Nat.le_refl _
    · rcases List.mem_cons.1 hp with rfl | hp
      · exact extract_size_le _ _ _
      · exact Nat.le_trans (split_size sep k _ p hp) (extract_size_le _ _ _)
/-- A text put together of parts without commas falls into these parts. -/
theorem split_join : ∀ (ps : List (List UInt8)), (∀ p ∈ ps, 44 ∉ p) → ∀ (q : List UInt8), 44 ∉ q → ∀ s : ByteArray, s.data.toList = q ++ ps.flatMap (fun p => 44 :: p) →
    Lib.splitB ⟨#[44]⟩ 0 (Lib.countB s ⟨#[44]⟩) s = bts q :: ps.map bts
  | [], _, q, hq, s, hs => by
    have e : s.data.toList = q := by simpa using hs
    have hi : Lib.indexB s ⟨#[44]⟩ = -1 := by
      show Lib.index s.data.toList [44] = -1
      rw [e]; exact index_miss 44 q hq
    rw [Lib.splitB_miss _ _ _ _ hi, bts_inj e]; rfl
  | p :: ps, hp, q, hq, s, hs => by
    have e : s.data.toList = q ++ 44 :: (p ++ ps.flatMap (fun p => 44 :: p)) := by rw [hs]; simp
    have hi : Lib.indexB s ⟨#[44]⟩ = (q.length : Int) := by
      show Lib.index s.data.toList [44] = _
      rw [e]; exact index_at 44 q _ hq
    have hz : (⟨#[44]⟩ : ByteArray).size = 1 := rfl
    rw [Lib.countB_hit s ⟨#[44]⟩ q.length (by rw [hz]; omega) hi, Nat.add_comm 1, Lib.splitB_hit _ _ _ _ _ hi, hz]
    have e2 : (s.extract (q.length + 1) s.size).data.toList = p ++ ps.flatMap (fun p => 44 :: p) := by
      rw [Lib.extract_to_end, e]
      rw [show q ++ 44 :: (p ++ ps.flatMap (fun p => 44 :: p)) = (q ++ [44]) ++ (p ++ ps.flatMap (fun p => 44 :: p)) from by simp, List.drop_left' (by simp)]
    rw [split_join ps (fun x hx => hp x (by simp [hx])) p (hp p (by simp)) _ e2]
    have e3 : s.extract 0 (q.length + 0) = bts q := by
      apply bts_inj
      rw [Lib.extract_from_zero, e, Nat.add_zero, List.take_left' rfl]
    rw [e3]; rfl
theorem ent_no (x : S47) : 44 ∉ ent x := by
  unfold ent
  intro h
  rcases List.mem_append.1 h with h | h
  · exact (all_good _ _ h).1 rfl
  · rcases List.mem_cons.1 h with h | h
    · exact absurd h (by decide)
    · exact (all_good _ _ h).1 rfl
def PE (p : ByteArray) : S47 := ⟨bts (desc_plainly.all (Lib.cut p.data.toList [61]).1), bts (desc_plainly.all (Lib.cut p.data.toList [61]).2.1)⟩
theorem PE_ent (x : S47) : PE (bts (ent x)) = x := by
  unfold PE
  rw [bts_data]
  unfold ent
  rw [cut_at 61 _ _ (fun h => (all_good _ _ h).2.1 rfl)]
  simp only [un, bts_self]
theorem split_T (l : List S47) (hl : l ≠ []) (s : ByteArray) (hs : T l = s.data.toList) : (Lib.splitB ⟨#[44]⟩ 0 (Lib.countB s ⟨#[44]⟩) s).map PE = l := by
  cases l with
  | nil => exact absurd rfl hl
  | cons x l =>
    rw [split_join (l.map ent) (fun p hp => by obtain ⟨y, _, rfl⟩ := List.mem_map.1 hp; exact ent_no y) (ent x) (ent_no x) s (by rw [← hs]; unfold T TT; rw [List.flatMap_map])]
    rw [List.map_cons, PE_ent, List.map_map, List.map_map]
    congr 1
    have h : l.map ((PE ∘ bts) ∘ ent) = l.map id := List.map_congr_left (fun y _ => PE_ent y)
    rw [h, List.map_id]
def fin (s : ByteArray) (l : List S47) : List S47 × Bool := if ck l = true then (if T l = s.data.toList then (l, true) else ([], false)) else ([], false)
theorem rdB_at {l : List ByteArray} {i : Nat} (h : i < l.length) : rdOf ByteArray.empty l (i : Int) = l[i] := by
  unfold rdOf; rw [Int.toNat_natCast, List.getD_eq_getElem?_getD, List.getElem?_eq_getElem h]; rfl
theorem PE_size (p : ByteArray) : (PE p).f0.size ≤ p.size ∧ (PE p).f1.size ≤ p.size := by
  have h := cut_len p.data.toList [61]
  have e : p.data.toList.length = p.size := by simp
  have h1 := plainly_len _ (Lib.cut p.data.toList [61]).1 (Nat.le_refl _)
  have h2 := plainly_len _ (Lib.cut p.data.toList [61]).2.1 (Nat.le_refl _)
  unfold PE
  simp only [bts_size]
  omega
theorem fin_ev (s : ByteArray) (l : List S47) (hl : l.length ≤ 9000000000000000000) (hx : ∀ x ∈ l, x.f0.size ≤ 9000000000000000000) :
    Ev (fun k => (desc_Check.f k l).bind fun t129 => (if t129 = 0 then ((desc_Text.f k l).bind fun t130 => (if t130.toList = s.toList then (some (l, true)) else (some (([] : List (S47)), false)))) else (some (([] : List (S47)), false)))) (fin s l) := by
  refine Ev.bind (check_ev l hl hx) ?_
  unfold fin
  cases h : ck l with
  | false => simp only [Bool.false_eq_true, if_false]; exact Ev.now _
  | true =>
    simp only [if_true]
    refine Ev.bind (text_ev l hl hx) ?_
    simp only [h, if_true, bts_toList, ByteArray.toList_eq s]
    by_cases hT : T l = s.data.toList
    · simp only [hT, if_true]; exact Ev.now _
    · simp only [hT, if_false]; exact Ev.now _
theorem read_loop (s : ByteArray) (ps : List ByteArray) (hl : ps.length ≤ 1000000000) (hp : ∀ p ∈ ps, p.size ≤ 1000000000) (d : Nat) : ∀ i : Nat, i + d = ps.length →
    Ev (fun k => desc_Read.l0 k s ps (ps.length : Int) (i : Int) ((ps.take i).map PE)) (fin s (ps.map PE)) := by
  induction d with
  | zero =>
    intro i hi
    rw [List.take_of_length_le (by omega)]
    refine Ev.step (fun k => ?_) (fin_ev s (ps.map PE) (by rw [List.length_map]; omega) ?_)
    · simp only [desc_Read.l0]; rw [if_neg (by omega)]
    · intro x hx
      obtain ⟨p, hm, rfl⟩ := List.mem_map.1 hx
      have := hp p hm
      have := (PE_size p).1
      omega
  | succ d ih =>
    intro i hi
    have hlt : i < ps.length := by omega
    have hb := hp _ (List.getElem_mem hlt)
    have hc := cut_len (ps[i]).data.toList [61]
    have e : (ps[i]).data.toList.length = (ps[i]).size := by simp
    refine Ev.step (f := fun k => desc_Read.l0 k s ps (ps.length : Int) ((i + 1 : Nat) : Int) ((ps.take (i + 1)).map PE)) (fun k => ?_) (ih (i + 1) (by omega))
    simp only [desc_Read.l0]
    have c1 : strings_Cut.f ps[i] ⟨#[61]⟩ = some (bts (Lib.cut (ps[i]).data.toList [61]).1, bts (Lib.cut (ps[i]).data.toList [61]).2.1, (Lib.cut (ps[i]).data.toList [61]).2.2) := by
      unfold strings_Cut.f; rw [if_pos ⟨rfl, by omega⟩]; rfl
    have c2 : ∀ l : List UInt8, l.length ≤ 1000000000 → desc_plainly.f (bts l) = some (bts (desc_plainly.all l)) := fun l h => by
      unfold desc_plainly.f; rw [if_pos (by rw [bts_size]; omega)]; rfl
    rw [if_pos (by omega), if_pos (by omega), if_pos (by omega), rdB_at hlt, c1]
    simp only [Option.bind_some]
    rw [c2 _ (by omega), c2 _ (by omega)]
    simp only [Option.bind_some]
    rw [if_pos (by rw [List.length_map, List.length_take]; omega), step1 hlt (by omega)]
    congr 1
    rw [List.take_succ_eq_append_getElem hlt, List.map_append]
    rfl
theorem read_ev (s : ByteArray) (hn : s.size ≤ 100000000) : Ev (fun k => desc_Read.f k s) (fin s ((Lib.splitB ⟨#[44]⟩ 0 (Lib.countB s ⟨#[44]⟩) s).map PE)) := by
  have h1 := Lib.countB_le ⟨#[44]⟩ (by decide) s.size s (Nat.le_refl _)
  have h2 := Lib.splitB_length_le ⟨#[44]⟩ 0 (Lib.countB s ⟨#[44]⟩) s
  have hf : strings_Split.f s ⟨#[44]⟩ = some (Lib.splitB ⟨#[44]⟩ 0 (Lib.countB s ⟨#[44]⟩) s) := by
    unfold strings_Split.f; rw [if_pos ⟨rfl, by omega⟩]
  unfold desc_Read.f
  rw [hf]
  simp only [Option.bind_some]
  exact read_loop s _ (by omega) (fun p hp => by have := split_size _ _ _ p hp; omega) _ 0 (Nat.zero_add _)
theorem bt_get (s : ByteArray) (i : Nat) (h : i < s.size) : bt s (i : Int) = ((s.data.toList[i]'(by simpa using h)).toNat : Int) := by
  unfold bt; simp only [Int.toNat_natCast]; rw [dif_pos h]; rfl
theorem size_data (s : ByteArray) : s.data.toList.length = s.size := by simp
theorem cut_loop (s : ByteArray) (c : UInt8) (a b : List UInt8) (h : s.data.toList = a ++ c :: b) (ha : c ∉ a) (hn : s.size ≤ 9000000000000000000) (d : Nat) : ∀ i : Nat, i + d = a.length →
    Ev (fun k => turncockref1_cut.l0 k s (c.toNat : Int) (i : Int)) (bts a, bts b, true) := by
  have hz : s.size = a.length + b.length + 1 := by rw [← size_data, h, List.length_append, List.length_cons]; omega
  induction d with
  | zero =>
    intro i hi
    obtain rfl : i = a.length := by omega
    have hb : bt s (a.length : Int) = (c.toNat : Int) := by rw [bt_get s _ (by omega)]; simp [h]
    refine Ev.step (f := fun _ => some (bts a, bts b, true)) (fun k => ?_) (Ev.now _)
    simp only [turncockref1_cut.l0]
    rw [if_pos (by omega), if_pos (by omega), if_pos hb, if_pos (by omega), step1 (show a.length < s.size by omega) hn, if_pos (by omega), if_pos (by omega)]
    simp only [Int.toNat_natCast]
    have e1 : s.extract 0 a.length = bts a := bts_inj (by rw [Lib.extract_from_zero, h, List.take_left' rfl])
    have e2 : s.extract (a.length + 1) s.size = bts b := bts_inj (by rw [Lib.extract_to_end, h, show a ++ c :: b = (a ++ [c]) ++ b from by simp, List.drop_left' (by simp)])
    rw [e1, e2]
  | succ d ih =>
    intro i hi
    have hb : bt s (i : Int) ≠ (c.toNat : Int) := by
      rw [bt_get s _ (by omega)]
      intro e
      have e2 : s.data.toList[i]'(by rw [size_data]; omega) = a[i]'(by omega) := by simp [h, List.getElem_append_left (show i < a.length by omega)]
      rw [e2] at e
      exact ha (by rw [← UInt8.toNat_inj.1 (Int.ofNat.inj e)]; exact List.getElem_mem _)
    refine Ev.step (f := fun k => turncockref1_cut.l0 k s (c.toNat : Int) ((i + 1 : Nat) : Int)) (fun k => ?_) (ih (i + 1) (by omega))
    simp only [turncockref1_cut.l0]
    rw [if_pos (by omega), if_pos (by omega), if_neg hb, step1 (show i < s.size by omega) hn]
theorem cut_hit (s : ByteArray) (c : UInt8) (a b : List UInt8) (h : s.data.toList = a ++ c :: b) (ha : c ∉ a) (hn : s.size ≤ 9000000000000000000) :
    Ev (fun k => turncockref1_cut.f k s (c.toNat : Int)) (bts a, bts b, true) := cut_loop s c a b h ha hn a.length 0 (Nat.zero_add _)
theorem cutm_loop (s : ByteArray) (c : UInt8) (ha : c ∉ s.data.toList) (hn : s.size ≤ 9000000000000000000) (d : Nat) : ∀ i : Nat, i + d = s.size →
    Ev (fun k => turncockref1_cut.l0 k s (c.toNat : Int) (i : Int)) (s, bts [], false) := by
  induction d with
  | zero =>
    intro i hi
    refine Ev.step (f := fun _ => some (s, bts [], false)) (fun k => ?_) (Ev.now _)
    simp only [turncockref1_cut.l0]
    rw [if_neg (by omega)]; rfl
  | succ d ih =>
    intro i hi
    have hb : bt s (i : Int) ≠ (c.toNat : Int) := by
      rw [bt_get s _ (by omega)]
      intro e
      exact ha (by rw [← UInt8.toNat_inj.1 (Int.ofNat.inj e)]; exact List.getElem_mem _)
    refine Ev.step (f := fun k => turncockref1_cut.l0 k s (c.toNat : Int) ((i + 1 : Nat) : Int)) (fun k => ?_) (ih (i + 1) (by omega))
    simp only [turncockref1_cut.l0]
    rw [if_pos (by omega), if_pos (by omega), if_neg hb, step1 (show i < s.size by omega) hn]
theorem cut_miss (s : ByteArray) (c : UInt8) (ha : c ∉ s.data.toList) (hn : s.size ≤ 9000000000000000000) :
    Ev (fun k => turncockref1_cut.f k s (c.toNat : Int)) (s, bts [], false) := cutm_loop s c ha hn s.size 0 (Nat.zero_add _)
/-- What the reference's cut tells at all: pieces no longer than the text; what is left behind the sign is shorter. -/
theorem cut_any (s : ByteArray) (c : UInt8) (hn : s.size ≤ 9000000000000000000) :
    ∃ r, Ev (fun k => turncockref1_cut.f k s (c.toNat : Int)) r ∧ r.1.size ≤ s.size ∧ r.2.1.size ≤ s.size ∧ (r.2.2 = true → r.2.1.size < s.size) := by
  by_cases h : c ∈ s.data.toList
  · obtain ⟨a, b, e, ha⟩ := List.eq_append_cons_of_mem h
    have hz : s.size = a.length + b.length + 1 := by rw [← size_data, e, List.length_append, List.length_cons]; omega
    exact ⟨_, cut_hit s c a b e ha hn, by simp only [bts_size]; omega, by simp only [bts_size]; omega, fun _ => by simp only [bts_size]; omega⟩
  · exact ⟨_, cut_miss s c h hn, Nat.le_refl _, by simp only [bts_size]; exact Nat.zero_le _, fun h => by cases h⟩
theorem hex_any (c : Int) (h0 : 0 ≤ c) (h1 : c ≤ 255) : ∃ v, turncockref1_hex.f c = some v := by
  have h : ∀ n : Fin 256, (turncockref1_hex.f (n.val : Int)).isSome = true := by decide +kernel
  have h2 := h ⟨c.toNat, by omega⟩
  rw [show ((c.toNat : Nat) : Int) = c by omega] at h2
  exact Option.isSome_iff_exists.1 h2
theorem j1_step (s : ByteArray) (hn : s.size ≤ 1000000000) (acc : List Int) (i k : Nat) (v1 v2 : Int) (h : i + 2 < s.size) (ha : acc.length ≤ i) (e1 : turncockref1_hex.f (bt s ((i + 1 : Nat) : Int)) = some v1) (e2 : turncockref1_hex.f (bt s ((i + 2 : Nat) : Int)) = some v2) :
    turncockref1_plain.j1 (k + 1) s acc (i : Int) false = turncockref1_plain.l0 k s (acc ++ [(wrap64 ((wrap64 (16 * v1)) + v2)) % 256]) ((i + 3 : Nat) : Int) := by
  have w1 : wrap64 ((i : Int) + 1) = ((i + 1 : Nat) : Int) := by unfold wrap64; omega
  have w2 : wrap64 ((i : Int) + 2) = ((i + 2 : Nat) : Int) := by unfold wrap64; omega
  have w3 : wrap64 (((i + 2 : Nat) : Int) + 1) = ((i + 3 : Nat) : Int) := by unfold wrap64; omega
  have c0 : ¬ (false = true) := by decide
  have c1 : (0 : Int) ≤ ((i + 1 : Nat) : Int) := by omega
  have c2 : ((i + 1 : Nat) : Int) < (s.size : Int) := by omega
  have c3 : (0 : Int) ≤ ((i + 2 : Nat) : Int) := by omega
  have c4 : ((i + 2 : Nat) : Int) < (s.size : Int) := by omega
  have c5 : acc.length < 140737488355328 := by omega
  simp only [turncockref1_plain.j1]
  rw [if_neg c0, w1, if_pos c1, if_pos c2, e1, Option.bind_some, w2, if_pos c3, if_pos c4, e2, Option.bind_some, if_pos c5]
  rw [w3]
theorem strOf_size (l : List Int) : (strOfNums l).size = l.length := by simp [strOfNums, ByteArray.size]
theorem plain_any (s : ByteArray) (hn : s.size ≤ 1000000000) (d : Nat) : ∀ n, n ≤ d → ∀ i : Nat, i + n = s.size → ∀ acc : List Int, acc.length ≤ i →
    ∃ r, Ev (fun k => turncockref1_plain.l0 k s acc (i : Int)) r ∧ r.1.size ≤ s.size := by
  have w1 : ∀ i : Nat, i < 2000000000 → wrap64 ((i : Int) + 1) = ((i + 1 : Nat) : Int) := fun i h => by unfold wrap64; omega
  have w2 : ∀ i : Nat, i < 2000000000 → wrap64 ((i : Int) + 2) = ((i + 2 : Nat) : Int) := fun i h => by unfold wrap64; omega
  induction d with
  | zero =>
    intro n hnd i hi acc ha
    refine ⟨(strOfNums acc, true), Ev.step (f := fun _ => some (strOfNums acc, true)) (fun k => ?_) (Ev.now _), by simp only [strOf_size]; omega⟩
    simp only [turncockref1_plain.l0]; rw [if_neg (by omega)]
  | succ d ih =>
    intro n hnd i hi acc ha
    by_cases h0 : ¬ i < s.size
    · refine ⟨(strOfNums acc, true), Ev.step (f := fun _ => some (strOfNums acc, true)) (fun k => ?_) (Ev.now _), by simp only [strOf_size]; omega⟩
      simp only [turncockref1_plain.l0]; rw [if_neg (by omega)]
    have h0 : i < s.size := Nat.not_le.1 (fun h => h0 (Nat.not_lt.2 h))
    have bad : Ev (fun k => turncockref1_plain.j1 k s acc (i : Int) true) (bts [], false) := Ev.step (f := fun _ => some (bts [], false)) (fun k => by simp only [turncockref1_plain.j1, if_true]; rfl) (Ev.now _)
    by_cases hp : bt s (i : Int) = 37
    · by_cases h2 : (i : Int) + 2 ≥ (s.size : Int)
      · refine ⟨(bts [], false), Ev.step (f := fun k => turncockref1_plain.j1 k s acc (i : Int) true) (fun k => ?_) bad, by simp only [bts_size]; exact Nat.zero_le _⟩
        simp only [turncockref1_plain.l0]
        rw [if_pos (by omega), if_pos (by omega), if_pos hp, w2 i (by omega), if_pos (by omega)]
      · have r1 := bt_range s ((i + 1 : Nat) : Int)
        have r2 := bt_range s ((i + 2 : Nat) : Int)
        obtain ⟨v1, e1⟩ := hex_any _ r1.1 r1.2
        obtain ⟨v2, e2⟩ := hex_any _ r2.1 r2.2
        by_cases hv1 : v1 < 0
        · refine ⟨(bts [], false), Ev.step (f := fun k => turncockref1_plain.j1 k s acc (i : Int) true) (fun k => ?_) bad, by simp only [bts_size]; exact Nat.zero_le _⟩
          simp only [turncockref1_plain.l0]
          rw [if_pos (by omega), if_pos (by omega), if_pos hp, w2 i (by omega), if_neg (by omega), w1 i (by omega), if_pos (by omega), if_pos (by omega), e1]
          simp only [Option.bind_some]
          rw [if_pos hv1]
        · by_cases hv2 : v2 < 0
          · refine ⟨(bts [], false), Ev.step (f := fun k => turncockref1_plain.j1 k s acc (i : Int) true) (fun k => ?_) bad, by simp only [bts_size]; exact Nat.zero_le _⟩
            simp only [turncockref1_plain.l0]
            rw [if_pos (by omega), if_pos (by omega), if_pos hp, w2 i (by omega), if_neg (by omega), w1 i (by omega), if_pos (by omega), if_pos (by omega), e1]
            simp only [Option.bind_some]
            rw [if_neg hv1, if_pos (by omega), if_pos (by omega), e2]
            simp only [Option.bind_some]
            rw [decide_eq_true hv2]
          · obtain ⟨r, hr, hs⟩ := ih (n - 3) (by omega) (i + 3) (by omega) (acc ++ [(wrap64 ((wrap64 (16 * v1)) + v2)) % 256]) (by rw [List.length_append, List.length_singleton]; omega)
            refine ⟨r, Ev.step (f := fun k => turncockref1_plain.j1 k s acc (i : Int) false) (fun k => ?_) (Ev.step (f := fun k => turncockref1_plain.l0 k s (acc ++ [(wrap64 ((wrap64 (16 * v1)) + v2)) % 256]) ((i + 3 : Nat) : Int)) (fun k => ?_) hr), hs⟩
            · simp only [turncockref1_plain.l0]
              rw [if_pos (by omega), if_pos (by omega), if_pos hp, w2 i (by omega), if_neg (by omega), w1 i (by omega), if_pos (by omega), if_pos (by omega), e1]
              simp only [Option.bind_some]
              rw [if_neg hv1, if_pos (by omega), if_pos (by omega), e2]
              simp only [Option.bind_some]
              rw [decide_eq_false hv2]
            · exact j1_step s hn acc i k v1 v2 (by omega) ha e1 e2
    · obtain ⟨r, hr, hs⟩ := ih (n - 1) (by omega) (i + 1) (by omega) (acc ++ [bt s (i : Int)]) (by rw [List.length_append, List.length_singleton]; omega)
      refine ⟨r, Ev.step (f := fun k => turncockref1_plain.l0 k s (acc ++ [bt s (i : Int)]) ((i + 1 : Nat) : Int)) (fun k => ?_) hr, hs⟩
      simp only [turncockref1_plain.l0]
      rw [if_pos (by omega), if_pos (by omega), if_neg hp, if_pos (by omega), w1 i (by omega)]
theorem one_hex (c : UInt8) : (desc_Escape.one c = [c] ∧ c ≠ 37) ∨ (∃ a b : UInt8, desc_Escape.one c = [37, a, b] ∧ turncockref1_hex.f (a.toNat : Int) = some ((c.toNat / 16 : Nat) : Int) ∧ turncockref1_hex.f (b.toNat : Int) = some ((c.toNat % 16 : Nat) : Int)) := by
  have h : ∀ n : Fin 256, (desc_Escape.one (UInt8.ofNat n.val) = [UInt8.ofNat n.val] ∧ UInt8.ofNat n.val ≠ 37) ∨ (desc_Escape.one (UInt8.ofNat n.val) = [37, desc_Escape.HEX.getD (n.val / 16) 0, desc_Escape.HEX.getD (n.val % 16) 0] ∧ turncockref1_hex.f ((desc_Escape.HEX.getD (n.val / 16) 0).toNat : Int) = some ((n.val / 16 : Nat) : Int) ∧ turncockref1_hex.f ((desc_Escape.HEX.getD (n.val % 16) 0).toNat : Int) = some ((n.val % 16 : Nat) : Int)) := by decide +kernel
  have h2 := h ⟨c.toNat, c.toNat_lt⟩
  simp only [UInt8.ofNat_toNat] at h2
  rcases h2 with h2 | ⟨h1, h2, h3⟩
  · exact .inl h2
  · exact .inr ⟨_, _, h1, h2, h3⟩
theorem hexsum (n : Nat) (h : n < 256) : (wrap64 ((wrap64 (16 * ((n / 16 : Nat) : Int))) + ((n % 16 : Nat) : Int))) % 256 = (n : Int) := by
  have h2 : ∀ m : Fin 256, (wrap64 ((wrap64 (16 * ((m.val / 16 : Nat) : Int))) + ((m.val % 16 : Nat) : Int))) % 256 = (m.val : Int) := by decide +kernel
  exact h2 ⟨n, h⟩
def ints (l : List UInt8) : List Int := l.map fun c => (c.toNat : Int)
theorem strOf_ints (l : List UInt8) : strOfNums (ints l) = bts l := by
  unfold strOfNums ints bts
  congr 1
  rw [List.map_map]
  congr 1
  rw [List.map_congr_left (g := id) (fun c _ => by simp), List.map_id]
theorem bt_app (s : ByteArray) (p q : List UInt8) (c : UInt8) (h : s.data.toList = p ++ c :: q) : bt s (p.length : Int) = (c.toNat : Int) := by
  rw [bt_get s _ (by rw [← size_data, h, List.length_append, List.length_cons]; omega)]
  simp [h]
theorem plain_esc (s : ByteArray) (hn : s.size ≤ 1000000000) : ∀ (l p done : List UInt8), s.data.toList = p ++ desc_Escape.all l → done.length ≤ p.length →
    Ev (fun k => turncockref1_plain.l0 k s (ints done) (p.length : Int)) (bts (done ++ l), true)
  | [], p, done, h, hd => by
    have hz : s.size = p.length := by rw [← size_data, h]; simp [desc_Escape.all]
    refine Ev.step (f := fun _ => some (bts (done ++ []), true)) (fun k => ?_) (Ev.now _)
    simp only [turncockref1_plain.l0]; rw [if_neg (by omega), List.append_nil, strOf_ints]
  | c :: l, p, done, h, hd => by
    have w1 : ∀ i : Nat, i < 2000000000 → wrap64 ((i : Int) + 1) = ((i + 1 : Nat) : Int) := fun i h => by unfold wrap64; omega
    have w2 : ∀ i : Nat, i < 2000000000 → wrap64 ((i : Int) + 2) = ((i + 2 : Nat) : Int) := fun i h => by unfold wrap64; omega
    rw [all_cons] at h
    have e0 : done ++ c :: l = (done ++ [c]) ++ l := by simp
    have e1 : ints done ++ [(c.toNat : Int)] = ints (done ++ [c]) := by simp [ints]
    have el : (ints done).length = done.length := by simp [ints]
    rcases one_hex c with ⟨h1, h2⟩ | ⟨a, b, h1, h2, h3⟩
    · rw [h1] at h
      have h' : s.data.toList = (p ++ [c]) ++ desc_Escape.all l := by rw [h]; simp
      have hz : s.size = p.length + 1 + (desc_Escape.all l).length := by rw [← size_data, h']; simp; omega
      have hb := bt_app s p (desc_Escape.all l) c (by rw [h]; rfl)
      have ih := plain_esc s hn l (p ++ [c]) (done ++ [c]) h' (by simp; omega)
      rw [List.length_append, List.length_singleton] at ih
      rw [e0]
      refine Ev.step (f := fun k => turncockref1_plain.l0 k s (ints (done ++ [c])) ((p.length + 1 : Nat) : Int)) (fun k => ?_) ih
      have hne : ¬ (c.toNat : Int) = 37 := fun e => h2 (by apply UInt8.toNat_inj.1; have : (37 : UInt8).toNat = 37 := rfl; omega)
      simp only [turncockref1_plain.l0]
      rw [if_pos (by omega), if_pos (by omega), hb, if_neg hne, if_pos (by omega), w1 p.length (by omega), e1]
    · rw [h1] at h
      have h' : s.data.toList = (p ++ [37, a, b]) ++ desc_Escape.all l := by rw [h]; simp
      have hz : s.size = p.length + 3 + (desc_Escape.all l).length := by rw [← size_data, h']; simp; omega
      have hb := bt_app s p (a :: b :: desc_Escape.all l) 37 (by rw [h]; rfl)
      have hb1 := bt_app s (p ++ [37]) (b :: desc_Escape.all l) a (by rw [h]; simp)
      have hb2 := bt_app s (p ++ [37, a]) (desc_Escape.all l) b (by rw [h]; simp)
      rw [List.length_append, List.length_singleton] at hb1
      rw [show (p ++ [37, a]).length = p.length + 2 from by simp] at hb2
      have ih := plain_esc s hn l (p ++ [37, a, b]) (done ++ [c]) h' (by simp; omega)
      rw [show (p ++ [37, a, b]).length = p.length + 3 from by simp] at ih
      rw [e0]
      have hc : c.toNat < 256 := c.toNat_lt
      clear h
      refine Ev.step (f := fun k => turncockref1_plain.j1 k s (ints done) (p.length : Int) false) (fun k => ?_) (Ev.step (f := fun k => turncockref1_plain.l0 k s (ints (done ++ [c])) ((p.length + 3 : Nat) : Int)) (fun k => ?_) ih)
      · simp only [turncockref1_plain.l0]
        rw [if_pos (by omega), if_pos (by omega), if_pos (by rw [hb]; rfl), w2 p.length (by omega), if_neg (by omega), w1 p.length (by omega), if_pos (by omega), if_pos (by omega), hb1, h2]
        simp only [Option.bind_some]
        rw [if_neg (Int.not_lt.2 (Int.natCast_nonneg _)), if_pos (by omega), if_pos (by omega), hb2, h3]
        simp only [Option.bind_some]
        rw [decide_eq_false (Int.not_lt.2 (Int.natCast_nonneg _))]
      · show turncockref1_plain.j1 (k + 1) s (ints done) (p.length : Int) false = _
        rw [j1_step s hn (ints done) p.length k _ _ (by omega) (by omega) (by rw [hb1]; exact h2) (by rw [hb2]; exact h3), hexsum _ hc, e1]
theorem plain_ev (l : List UInt8) (hn : (desc_Escape.all l).length ≤ 1000000000) : Ev (fun k => turncockref1_plain.f k (bts (desc_Escape.all l))) (bts l, true) :=
  plain_esc (bts (desc_Escape.all l)) (by rw [bts_size]; exact hn) l [] [] rfl (Nat.le_refl _)
theorem T_ne {l : List S47} (h : ck l = true) : T l ≠ [] := by
  cases l with
  | nil => simp [ck] at h
  | cons x l => unfold T ent; simp
theorem rfin_ev (s x5 : ByteArray) (l : List S47) (hl : l.length ≤ 9000000000000000000) (hx : ∀ x ∈ l, x.f0.size ≤ 9000000000000000000) :
    Ev (fun k => turncockref1_ReadDesc.l0 k s x5 false l) (fin s l) := by
  refine Ev.step (f := fun k => (turncockref1_DescText.f k l).bind fun t189 => (if t189.toList = s.toList then (if s.toList = ([] : List UInt8) then (some (([] : List (S47)), false)) else (some (l, true))) else (some (([] : List (S47)), false)))) (fun k => ?_) ?_
  · simp only [turncockref1_ReadDesc.l0]; rw [if_neg (by decide)]
  · refine Ev.bind (rtext_ev l hl hx) ?_
    simp only [bts_toList, ByteArray.toList_eq s]
    unfold fin
    cases h : ck l with
    | true =>
      simp only [if_true]
      by_cases hT : T l = s.data.toList
      · have hne : ¬ s.data.toList = [] := fun e => T_ne h (hT.trans e)
        simp only [hT, if_true, hne, if_false]; exact Ev.now _
      · simp only [hT, if_false]; exact Ev.now _
    | false =>
      simp only [Bool.false_eq_true, if_false]
      by_cases hT : ([] : List UInt8) = s.data.toList
      · simp only [← hT, if_true]; exact Ev.now _
      · simp only [hT, if_false]; exact Ev.now _
theorem rj_bad (s x5 : ByteArray) (m : Bool) (a b : ByteArray) (acc : List S47) : Ev (fun k => turncockref1_ReadDesc.j1 k s x5 m a b true acc) ([], false) :=
  Ev.step (f := fun _ => some ([], false)) (fun k => by simp only [turncockref1_ReadDesc.j1, if_true]) (Ev.now _)
theorem rj_good (s x5 : ByteArray) (m : Bool) (a b : ByteArray) (acc : List S47) (r : List S47 × Bool) (ha : acc.length ≤ 7) (h : Ev (fun k => turncockref1_ReadDesc.l0 k s x5 m (acc ++ [⟨a, b⟩])) r) :
    Ev (fun k => turncockref1_ReadDesc.j1 k s x5 m a b false acc) r := by
  refine Ev.step (fun k => ?_) h
  have c1 : acc.length < 4398046511104 := by omega
  have c2 : ¬ ((acc ++ [(⟨a, b⟩ : S47)]).length : Int) > 8 := by rw [List.length_append, List.length_singleton]; omega
  simp only [turncockref1_ReadDesc.j1]
  rw [if_neg (by decide), if_pos c1, Option.bind_some, if_neg c2]
theorem rj_full (s x5 : ByteArray) (m : Bool) (a b : ByteArray) (acc : List S47) (ha : acc.length = 8) :
    Ev (fun k => turncockref1_ReadDesc.j1 k s x5 m a b false acc) ([], false) := by
  refine Ev.step (f := fun _ => some ([], false)) (fun k => ?_) (Ev.now _)
  have c1 : acc.length < 4398046511104 := by omega
  have c2 : ((acc ++ [(⟨a, b⟩ : S47)]).length : Int) > 8 := by rw [List.length_append, List.length_singleton]; omega
  simp only [turncockref1_ReadDesc.j1]
  rw [if_neg (by decide), if_pos c1, Option.bind_some, if_pos c2]
theorem rl_step (s x5 : ByteArray) (acc : List S47) (c1 c2 : ByteArray × ByteArray × Bool) (p1 p2 : ByteArray × Bool) (r : List S47 × Bool)
    (h1 : Ev (fun k => turncockref1_cut.f k x5 44) c1) (h2 : Ev (fun k => turncockref1_cut.f k c1.1 61) c2) (h3 : Ev (fun k => turncockref1_plain.f k c2.1) p1) (h4 : Ev (fun k => turncockref1_plain.f k c2.2.1) p2)
    (h5 : Ev (fun k => if c2.2.2 = true then (if p1.2 = true then (turncockref1_ReadDesc.j1 k s c1.2.1 c1.2.2 p1.1 p2.1 (!p2.2) acc) else (turncockref1_ReadDesc.j1 k s c1.2.1 c1.2.2 p1.1 p2.1 true acc)) else (turncockref1_ReadDesc.j1 k s c1.2.1 c1.2.2 p1.1 p2.1 true acc)) r) :
    Ev (fun k => turncockref1_ReadDesc.l0 k s x5 true acc) r := by
  refine Ev.step (f := fun k => (turncockref1_cut.f k x5 44).bind fun b1 => ((turncockref1_cut.f k b1.1 61).bind fun b2 => ((turncockref1_plain.f k b2.1).bind fun b3 => ((turncockref1_plain.f k b2.2.1).bind fun b4 => (if b2.2.2 = true then (if b3.2 = true then (turncockref1_ReadDesc.j1 k s b1.2.1 b1.2.2 b3.1 b4.1 (!b4.2) acc) else (turncockref1_ReadDesc.j1 k s b1.2.1 b1.2.2 b3.1 b4.1 true acc)) else (turncockref1_ReadDesc.j1 k s b1.2.1 b1.2.2 b3.1 b4.1 true acc)))))) (fun k => by simp only [turncockref1_ReadDesc.l0, if_true]) ?_
  refine Ev.bind h1 ?_
  refine Ev.bind h2 ?_
  refine Ev.bind h3 ?_
  exact Ev.bind h4 h5
theorem rread_any (s : ByteArray) : ∀ (n : Nat) (x5 : ByteArray) (acc : List S47), x5.size ≤ n → x5.size ≤ 1000000000 → acc.length ≤ 8 → (∀ x ∈ acc, x.f0.size ≤ 1000000000) →
    ∃ r, Ev (fun k => turncockref1_ReadDesc.l0 k s x5 true acc) r ∧ (r = ([], false) ∨ ∃ l, r = fin s l) := by
  intro n
  induction n with
  | zero =>
    intro x5 acc hn hs ha hx
    obtain ⟨c1, e1, z1, z2, z3⟩ := cut_any x5 44 (by omega)
    obtain ⟨c2, e2, y1, y2, _⟩ := cut_any c1.1 61 (by omega)
    obtain ⟨p1, e3, q1⟩ := plain_any c2.1 (by omega) c2.1.size c2.1.size (Nat.le_refl _) 0 (Nat.zero_add _) [] (Nat.le_refl _)
    obtain ⟨p2, e4, q2⟩ := plain_any c2.2.1 (by omega) c2.2.1.size c2.2.1.size (Nat.le_refl _) 0 (Nat.zero_add _) [] (Nat.le_refl _)
    have hm : c1.2.2 = false := by
      cases h : c1.2.2 with
      | false => rfl
      | true => have := z3 h; omega
    by_cases g : c2.2.2 = true ∧ p1.2 = true ∧ p2.2 = true ∧ acc.length ≤ 7
    · obtain ⟨g1, g2, g3, g4⟩ := g
      refine ⟨_, rl_step s x5 acc c1 c2 p1 p2 (fin s (acc ++ [⟨p1.1, p2.1⟩])) e1 e2 e3 e4 ?_, .inr ⟨_, rfl⟩⟩
      simp only [g1, g2, g3, if_true, Bool.not_true, hm]
      refine rj_good s _ _ _ _ acc _ g4 (rfin_ev s _ _ (by rw [List.length_append, List.length_singleton]; omega) ?_)
      intro x hx'
      rcases List.mem_append.1 hx' with h | h
      · have := hx x h; omega
      · rw [List.mem_singleton.1 h]; show p1.1.size ≤ _; omega
    · refine ⟨([], false), rl_step s x5 acc c1 c2 p1 p2 _ e1 e2 e3 e4 ?_, .inl rfl⟩
      by_cases g1 : c2.2.2 = true
      · by_cases g2 : p1.2 = true
        · by_cases g3 : p2.2 = true
          · simp only [g1, g2, g3, if_true, Bool.not_true]
            exact rj_full s _ _ _ _ acc (by
              by_cases h : acc.length ≤ 7
              · exact absurd ⟨g1, g2, g3, h⟩ g
              · omega)
          · simp only [Bool.not_eq_true] at g3
            simp only [g1, g2, g3, if_true, Bool.not_false]
            exact rj_bad _ _ _ _ _ _
        · simp only [g1, g2, if_true]
          exact rj_bad _ _ _ _ _ _
      · simp only [g1]
        exact rj_bad _ _ _ _ _ _
  | succ n ih =>
    intro x5 acc hn hs ha hx
    obtain ⟨c1, e1, z1, z2, z3⟩ := cut_any x5 44 (by omega)
    obtain ⟨c2, e2, y1, y2, _⟩ := cut_any c1.1 61 (by omega)
    obtain ⟨p1, e3, q1⟩ := plain_any c2.1 (by omega) c2.1.size c2.1.size (Nat.le_refl _) 0 (Nat.zero_add _) [] (Nat.le_refl _)
    obtain ⟨p2, e4, q2⟩ := plain_any c2.2.1 (by omega) c2.2.1.size c2.2.1.size (Nat.le_refl _) 0 (Nat.zero_add _) [] (Nat.le_refl _)
    by_cases g : c2.2.2 = true ∧ p1.2 = true ∧ p2.2 = true ∧ acc.length ≤ 7
    · obtain ⟨g1, g2, g3, g4⟩ := g
      have hx2 : ∀ x ∈ acc ++ [(⟨p1.1, p2.1⟩ : S47)], x.f0.size ≤ 1000000000 := by
        intro x hx'
        rcases List.mem_append.1 hx' with h | h
        · exact hx x h
        · rw [List.mem_singleton.1 h]; show p1.1.size ≤ _; omega
      have hl2 : (acc ++ [(⟨p1.1, p2.1⟩ : S47)]).length ≤ 8 := by rw [List.length_append, List.length_singleton]; omega
      cases hm : c1.2.2 with
      | false =>
        refine ⟨_, rl_step s x5 acc c1 c2 p1 p2 (fin s (acc ++ [⟨p1.1, p2.1⟩])) e1 e2 e3 e4 ?_, .inr ⟨_, rfl⟩⟩
        simp only [g1, g2, g3, if_true, Bool.not_true, hm]
        exact rj_good s _ _ _ _ acc _ g4 (rfin_ev s _ _ (by omega) (fun x h => by have := hx2 x h; omega))
      | true =>
        have := z3 hm
        obtain ⟨r, hr, ho⟩ := ih c1.2.1 (acc ++ [⟨p1.1, p2.1⟩]) (by omega) (by omega) hl2 hx2
        refine ⟨r, rl_step s x5 acc c1 c2 p1 p2 r e1 e2 e3 e4 ?_, ho⟩
        simp only [g1, g2, g3, if_true, Bool.not_true, hm]
        exact rj_good s _ _ _ _ acc _ g4 hr
    · refine ⟨([], false), rl_step s x5 acc c1 c2 p1 p2 _ e1 e2 e3 e4 ?_, .inl rfl⟩
      by_cases g1 : c2.2.2 = true
      · by_cases g2 : p1.2 = true
        · by_cases g3 : p2.2 = true
          · simp only [g1, g2, g3, if_true, Bool.not_true]
            exact rj_full s _ _ _ _ acc (by
              by_cases h : acc.length ≤ 7
              · exact absurd ⟨g1, g2, g3, h⟩ g
              · omega)
          · simp only [Bool.not_eq_true] at g3
            simp only [g1, g2, g3, if_true, Bool.not_false]
            exact rj_bad _ _ _ _ _ _
        · simp only [g1, g2, if_true]
          exact rj_bad _ _ _ _ _ _
      · simp only [g1]
        exact rj_bad _ _ _ _ _ _
theorem rread_T (s : ByteArray) : ∀ (rest : List S47) (x5 : ByteArray) (acc : List S47), rest ≠ [] → x5.data.toList = T rest → acc.length + rest.length ≤ 8 →
    (∀ x ∈ rest, x.f0.size ≤ 64 ∧ x.f1.size ≤ 128) → (∀ x ∈ acc, x.f0.size ≤ 9000000000000000000) → Ev (fun k => turncockref1_ReadDesc.l0 k s x5 true acc) (fin s (acc ++ rest)) := by
  intro rest
  induction rest with
  | nil => intro _ _ h; exact absurd rfl h
  | cons x l ih =>
    intro x5 acc _ hT hlen hs ha
    have hb := hs x (by simp)
    have h1 := desc_Escape.all_len x.f0.data.toList
    have h2 := desc_Escape.all_len x.f1.data.toList
    have i1 : x.f0.data.toList.length = x.f0.size := by simp
    have i2 : x.f1.data.toList.length = x.f1.size := by simp
    have he := ent_len hb
    have hz := T_len hs
    rw [← hT, size_data] at hz
    rw [List.length_cons] at hlen hz
    have e2 : Ev (fun k => turncockref1_cut.f k (bts (ent x)) 61) (bts (desc_Escape.all x.f0.data.toList), bts (desc_Escape.all x.f1.data.toList), true) :=
      cut_hit (bts (ent x)) 61 _ _ rfl (fun h => (all_good _ _ h).2.1 rfl) (by rw [bts_size]; omega)
    have e3 : Ev (fun k => turncockref1_plain.f k (bts (desc_Escape.all x.f0.data.toList))) (x.f0, true) := by have := plain_ev x.f0.data.toList (by omega); rwa [bts_self] at this
    have e4 : Ev (fun k => turncockref1_plain.f k (bts (desc_Escape.all x.f1.data.toList))) (x.f1, true) := by have := plain_ev x.f1.data.toList (by omega); rwa [bts_self] at this
    have hx2 : ∀ y ∈ acc ++ [(⟨x.f0, x.f1⟩ : S47)], y.f0.size ≤ 9000000000000000000 := by
      intro y hy
      rcases List.mem_append.1 hy with h | h
      · exact ha y h
      · rw [List.mem_singleton.1 h]; show x.f0.size ≤ _; omega
    cases l with
    | nil =>
      have e0 : x5.data.toList = ent x := by rw [hT]; simp [T, TT]
      have e1 : Ev (fun k => turncockref1_cut.f k x5 44) (x5, bts [], false) := cut_miss x5 44 (by rw [e0]; exact ent_no x) (by omega)
      refine rl_step s x5 acc _ _ _ _ _ e1 (by rw [bts_inj e0]; exact e2) e3 e4 ?_
      simp only [if_true, Bool.not_true]
      exact rj_good s _ _ _ _ acc _ (by simp at hlen; omega) (rfin_ev s _ _ (by rw [List.length_append, List.length_singleton]; simp at hlen; omega) hx2)
    | cons y l =>
      have e0 : x5.data.toList = ent x ++ 44 :: T (y :: l) := by rw [hT]; simp [T, TT]
      have e1 : Ev (fun k => turncockref1_cut.f k x5 44) (bts (ent x), bts (T (y :: l)), true) := cut_hit x5 44 _ _ e0 (ent_no x) (by omega)
      refine rl_step s x5 acc _ _ _ _ _ e1 e2 e3 e4 ?_
      simp only [if_true, Bool.not_true]
      refine rj_good s _ _ _ _ acc _ (by simp at hlen; omega) ?_
      have := ih (bts (T (y :: l))) (acc ++ [⟨x.f0, x.f1⟩]) (by simp) rfl (by rw [List.length_append, List.length_singleton]; simp at hlen ⊢; omega) (fun z hz => hs z (by simp at hz ⊢; exact .inr hz)) hx2
      rw [List.append_assoc] at this
      exact this
/-- Both readings of any text are one. -/
theorem reads_same (s : ByteArray) (hn : s.size ≤ 100000000) : ∃ r : List S47 × Bool, Ev (fun k => desc_Read.f k s) r ∧ Ev (fun k => turncockref1_ReadDesc.f k s) r ∧ (r = ([], false) ∨ (r.2 = true ∧ ck r.1 = true ∧ T r.1 = s.data.toList ∧ ∀ x ∈ r.1, x.f0.size ≤ 9000000000000000000)) := by
  have hp := read_ev s hn
  obtain ⟨r, hr, ho⟩ := rread_any s s.size s [] (Nat.le_refl _) (by omega) (by simp) (fun x h => by simp at h)
  have hsz : ∀ x ∈ (Lib.splitB ⟨#[44]⟩ 0 (Lib.countB s ⟨#[44]⟩) s).map PE, x.f0.size ≤ 9000000000000000000 := by
    intro x hx
    obtain ⟨p, hm, rfl⟩ := List.mem_map.1 hx
    have h1 := (PE_size p).1
    have h2 := split_size _ _ _ p hm
    omega
  generalize hE : (Lib.splitB ⟨#[44]⟩ 0 (Lib.countB s ⟨#[44]⟩) s).map PE = E at hp hsz
  by_cases hc : ck E = true ∧ T E = s.data.toList
  · have hf : fin s E = (E, true) := by unfold fin; rw [if_pos hc.1, if_pos hc.2]
    obtain ⟨k1, k2, k3⟩ := ck_size hsz hc.1
    have hne : E ≠ [] := fun e => by rw [e] at k1; simp at k1
    have ht := rread_T s E s [] hne hc.2.symm (by simpa using k2) k3 (fun x h => by simp at h)
    rw [List.nil_append] at ht
    rw [hf] at hp ht
    exact ⟨(E, true), hp, ht, .inr ⟨rfl, hc.1, hc.2, hsz⟩⟩
  · have hf : fin s E = ([], false) := by
      unfold fin
      by_cases h1 : ck E = true
      · rw [if_pos h1, if_neg (fun h2 => hc ⟨h1, h2⟩)]
      · rw [if_neg h1]
    rw [hf] at hp
    refine ⟨([], false), hp, ?_, .inl rfl⟩
    rcases ho with rfl | ⟨l, rfl⟩
    · exact hr
    · by_cases h1 : ck l = true ∧ T l = s.data.toList
      · have hne : l ≠ [] := fun e => by rw [e] at h1; exact absurd h1.1 (by decide)
        have := split_T l hne s h1.2
        rw [hE] at this
        subst this
        exact absurd h1 hc
      · have hg : fin s l = ([], false) := by
          unfold fin
          by_cases h2 : ck l = true
          · rw [if_pos h2, if_neg (fun h3 => h1 ⟨h2, h3⟩)]
          · rw [if_neg h2]
        rw [hg] at hr
        exact hr
theorem same_loop (l : List S47) (hl : l.length ≤ 9000000000000000000) (d : Nat) : ∀ i : Nat, i + d = l.length → Ev (fun k => turncockref1_SameDesc.l0 k (i : Int) l l) true := by
  induction d with
  | zero =>
    intro i hi
    refine Ev.step (f := fun _ => some true) (fun k => ?_) (Ev.now _)
    simp only [turncockref1_SameDesc.l0]; rw [if_neg (by omega)]
  | succ d ih =>
    intro i hi
    refine Ev.step (f := fun k => turncockref1_SameDesc.l0 k ((i + 1 : Nat) : Int) l l) (fun k => ?_) (ih (i + 1) (by omega))
    simp only [turncockref1_SameDesc.l0]
    rw [if_pos (by omega), if_pos (by omega), if_pos (by omega), if_neg (by simp), step1 (show i < l.length by omega) hl]
theorem same_ev (l : List S47) (hl : l.length ≤ 9000000000000000000) : Ev (fun k => turncockref1_SameDesc.f k l l) true := by
  unfold turncockref1_SameDesc.f
  simp only [if_true]
  exact same_loop l hl l.length 0 (Nat.zero_add _)
def hold (a : Int) : Int := if a < 0 then 0 else if a > 4611686018427387904 then 4611686018427387904 else a
theorem hold_rng (a : Int) : 0 ≤ hold a ∧ hold a ≤ 4611686018427387904 := by
  unfold hold
  repeat' split
  all_goals omega
theorem hold_in (a : Int) (h0 : 0 ≤ a) (h1 : a ≤ 4611686018427387904) : hold a = a := by
  unfold hold
  rw [if_neg (by omega), if_neg (by omega)]
theorem numhold_f (a : Int) : num_Hold.f a = some (hold a) := by
  unfold num_Hold.f hold mx mn
  congr 1
  repeat' split
  all_goals omega
def addH (a b : Int) : Int := if hold a + hold b > 4611686018427387904 then 4611686018427387904 else hold a + hold b
theorem add_f (a b : Int) : num_Add.f a b = some (addH a b) := by
  have ha := hold_rng a
  have hb := hold_rng b
  unfold num_Add.f addH
  rw [numhold_f, numhold_f]
  simp only [Option.bind_some]
  rw [show wrap64 (4611686018427387904 - hold b) = 4611686018427387904 - hold b from by unfold wrap64; omega]
  by_cases h : hold a + hold b > 4611686018427387904
  · rw [if_pos h, if_pos (by omega)]
  · rw [if_neg h, if_neg (by omega), show wrap64 (hold a + hold b) = hold a + hold b from by unfold wrap64; omega]
def mulH (a b : Int) : Int := if hold a * hold b > 4611686018427387904 then 4611686018427387904 else hold a * hold b
theorem mul_f (a b : Int) : num_Mul.f a b = some (mulH a b) := by
  have ha := hold_rng a
  have hb := hold_rng b
  have h0 : 0 ≤ hold a * hold b := Int.mul_nonneg ha.1 hb.1
  unfold num_Mul.f mulH
  rw [numhold_f, numhold_f]
  simp only [Option.bind_some]
  by_cases h1 : hold b > 0
  · have key : hold a ≤ 4611686018427387904 / hold b ↔ hold a * hold b ≤ 4611686018427387904 := Int.le_ediv_iff_mul_le h1
    rw [if_pos h1]
    by_cases h : hold a * hold b > 4611686018427387904
    · rw [if_pos h, if_pos (by omega)]
    · rw [if_neg h, if_neg (by omega), show wrap64 (hold a * hold b) = hold a * hold b from by unfold wrap64; omega]
  · have e : hold b = 0 := by omega
    rw [if_neg h1, e, Int.mul_zero]; simp [wrap64]
def toB (z : Int) : UInt8 := UInt8.ofNat z.toNat
theorem toB_nat (n : Nat) : toB (n : Int) = UInt8.ofNat n := by unfold toB; rw [Int.toNat_natCast]
theorem digit_term (n : Nat) : (wrap64 (48 + Int.tmod (n : Int) 10)) % 256 = ((48 + n % 10 : Nat) : Int) := by
  rw [Int.tmod_eq_emod_of_nonneg (by omega)]
  unfold wrap64
  omega
theorem quo_term (n : Nat) (h : n ≤ 4611686018427387904) : wrap64 (Int.tdiv (n : Int) 10) = ((n / 10 : Nat) : Int) := by
  rw [Int.tdiv_eq_ediv_of_nonneg (by omega)]
  unfold wrap64
  omega
theorem dig_l0 (d : Nat) : ∀ (k n : Nat) (acc : List Int), n ≤ 4611686018427387904 → n < 10 ^ d → d < k → acc.length + d ≤ 1000 →
    num_Digits.l0 k (n : Int) acc = some ⟨(Dec.pre n ++ acc.map toB).toArray⟩ := by
  induction d with
  | zero =>
    intro k n acc hm hn hk ha
    obtain ⟨k, rfl⟩ : ∃ m, k = m + 1 := ⟨k - 1, by omega⟩
    obtain rfl : n = 0 := by omega
    simp only [num_Digits.l0]
    rw [if_neg (by omega)]; rfl
  | succ d ih =>
    intro k n acc hm hn hk ha
    obtain ⟨k, rfl⟩ : ∃ m, k = m + 1 := ⟨k - 1, by omega⟩
    by_cases h : n = 0
    · subst h
      simp only [num_Digits.l0]
      rw [if_neg (by omega)]; rfl
    · simp only [num_Digits.l0]
      rw [if_pos (by omega), digit_term, quo_term n hm]
      simp only [Option.bind_some]
      rw [if_pos (by simp; omega), ih k (n / 10) _ (by omega) (by rw [Nat.pow_succ] at hn; omega) (by omega) (by simp; omega), Dec.pre_step n h]
      simp only [List.map_append, List.map_cons, List.map_nil, toB_nat, List.append_assoc]
theorem digits_f (a : Int) (k : Nat) (hk : 20 < k) : num_Digits.f k a = some ⟨(Dec.dec (hold a).toNat).toArray⟩ := by
  have ha := hold_rng a
  unfold num_Digits.f
  rw [numhold_f]
  simp only [Option.bind_some]
  obtain ⟨n, hn⟩ : ∃ n : Nat, hold a = n := ⟨(hold a).toNat, by omega⟩
  rw [hn] at ha ⊢
  rw [digit_term, quo_term n (by omega), dig_l0 19 k (n / 10) _ (by omega) (by omega) (by omega) (by simp)]
  rw [Int.toNat_natCast, Dec.dec_pre n]
  simp only [List.map_cons, List.map_nil, toB_nat]
/-- What digits are worth upon a. -/
def valF (a : Nat) (l : List UInt8) : Nat := l.foldl (fun a c => a * 10 + (c.toNat - 48)) a
theorem valF_ge (l : List UInt8) : ∀ a, a ≤ valF a l := by
  induction l with
  | nil => intro a; exact Nat.le_refl _
  | cons c l ih => intro a; exact Nat.le_trans (by omega) (ih (a * 10 + (c.toNat - 48)))
def allD (l : List UInt8) : Prop := ∀ c ∈ l, Dec.isDig c
def MX : Nat := 4611686018427387904
theorem sat_step (a d : Nat) (hd : d ≤ 9) : addH (mulH ((min a MX : Nat) : Int) 10) (d : Int) = ((min (a * 10 + d) MX : Nat) : Int) := by
  have e1 : hold ((min a MX : Nat) : Int) = ((min a MX : Nat) : Int) := hold_in _ (by omega) (by unfold MX; omega)
  have e2 : hold (10 : Int) = 10 := rfl
  have e3 : hold (d : Int) = d := hold_in _ (by omega) (by omega)
  have e4 : mulH ((min a MX : Nat) : Int) 10 = ((min (a * 10) MX : Nat) : Int) := by
    unfold mulH; rw [e1, e2]; unfold MX; split <;> omega
  unfold addH
  rw [e4, e3, hold_in _ (by omega) (by unfold MX; omega)]
  unfold MX; split <;> omega
theorem byte_next (s : ByteArray) (pos : Nat) (h : pos < s.size) :
    (((Utf8.decode s pos) = ((s[pos]'h).toNat, 1)) ∨ 128 ≤ (Utf8.decode s pos).1) ∧ ((s[pos]'h).toNat < 128 → (Utf8.decode s pos) = ((s[pos]'h).toNat, 1)) ∧ (128 ≤ (s[pos]'h).toNat → 128 ≤ (Utf8.decode s pos).1) := by
  by_cases ha : (s[pos]'h).toNat < 128
  · have := decode_ascii s pos h ha
    exact ⟨.inl this, fun _ => this, fun h => by omega⟩
  · have := (decode_high s pos h (by omega)).1
    exact ⟨.inr this, fun h => by omega, fun _ => this⟩
theorem parse_l0 (s : ByteArray) (d : Nat) : ∀ (k pos a : Nat), pos + d = s.size → d + 21 < k →
    (allD (s.data.toList.drop pos) → num_Parse.l0 k s pos ((min a MX : Nat) : Int) = if ¬ Dec.dec (min (valF a (s.data.toList.drop pos)) MX) = s.data.toList then some (0, false) else some (((min (valF a (s.data.toList.drop pos)) MX : Nat) : Int), true)) ∧
    (¬ allD (s.data.toList.drop pos) → num_Parse.l0 k s pos ((min a MX : Nat) : Int) = some (0, false)) := by
  have hl : s.data.toList.length = s.size := by simp
  induction d with
  | zero =>
    intro k pos a hp hk
    obtain ⟨k, rfl⟩ : ∃ m, k = m + 1 := ⟨k - 1, by omega⟩
    have e : s.data.toList.drop pos = [] := List.drop_eq_nil_of_le (by omega)
    rw [e]
    refine ⟨fun _ => ?_, fun h => absurd (fun c hc => by simp at hc) h⟩
    simp only [num_Parse.l0]
    rw [if_neg (by omega), digits_f _ _ (by omega)]
    simp only [Option.bind_some]
    rw [hold_in _ (by omega) (by unfold MX; omega), Int.toNat_natCast, ByteArray.toList_eq, ByteArray.toList_eq]
    rfl
  | succ d ih =>
    intro k pos a hp hk
    obtain ⟨k, rfl⟩ : ∃ m, k = m + 1 := ⟨k - 1, by omega⟩
    have hlt : pos < s.size := by omega
    have e : s.data.toList.drop pos = s[pos]'hlt :: s.data.toList.drop (pos + 1) := by
      rw [List.drop_eq_getElem_cons (by omega)]; rfl
    obtain ⟨b0, b1, b2⟩ := byte_next s pos hlt
    rw [e]
    have hcons : allD (s[pos]'hlt :: s.data.toList.drop (pos + 1)) ↔ Dec.isDig (s[pos]'hlt) ∧ allD (s.data.toList.drop (pos + 1)) := by
      unfold allD; simp
    rw [hcons]
    generalize hb : s[pos]'hlt = b at *
    have hv : valF a (b :: s.data.toList.drop (pos + 1)) = valF (a * 10 + (b.toNat - 48)) (s.data.toList.drop (pos + 1)) := rfl
    rw [hv]
    have hblt := b.toNat_lt
    simp only [num_Parse.l0]
    rw [if_pos hlt]
    by_cases hd : Dec.isDig b
    · have hd' := hd
      unfold Dec.isDig at hd'
      have hdec := b1 (by omega)
      rw [hdec]
      simp only []
      rw [if_neg (by omega), if_neg (by omega), mul_f]
      simp only [Option.bind_some]
      rw [add_f]
      simp only [Option.bind_some]
      rw [show ((b.toNat : Int) - 48) = ((b.toNat - 48 : Nat) : Int) from by omega, sat_step a (b.toNat - 48) (by omega)]
      obtain ⟨h1, h2⟩ := ih k (pos + 1) (a * 10 + (b.toNat - 48)) (by omega) (by omega)
      exact ⟨fun h => h1 h.2, fun h => h2 (fun h' => h ⟨hd, h'⟩)⟩
    · refine ⟨fun h => absurd h.1 hd, fun _ => ?_⟩
      have hc : (Utf8.decode s pos).1 < 48 ∨ 57 < (Utf8.decode s pos).1 := by
        by_cases ha : b.toNat < 128
        · have h2 : (Utf8.decode s pos).1 = b.toNat := by rw [b1 ha]
          rw [h2]
          unfold Dec.isDig at hd
          omega
        · have := b2 (by omega); omega
      rcases hc with hc | hc
      · rw [if_pos (by omega)]
      · rw [if_neg (by omega), if_pos (by omega)]
/-- What a text is as a number. -/
def good (l : List UInt8) : Prop := allD l ∧ l ≠ [] ∧ (l.length = 1 ∨ l.head? ≠ some 48) ∧ Dec.val l ≤ MX
theorem dec_good {l : List UInt8} {n : Nat} (h : Dec.dec n = l) (hn : n ≤ MX) : good l ∧ Dec.val l = n := by
  have hv : Dec.val l = n := by rw [← h, Dec.val_dec]
  refine ⟨⟨by rw [← h]; exact Dec.dec_digs n, by rw [← h]; exact Dec.dec_ne n, ?_, by omega⟩, hv⟩
  by_cases h0 : n = 0
  · subst h0; rw [← h, Dec.dec_small 0 (by omega)]; exact .inl rfl
  · rw [← h]; exact .inr (Dec.dec_head n (by omega))
theorem parse_good (s : ByteArray) (k : Nat) (hk : s.size + 21 < k) (h : good s.data.toList) : num_Parse.f k s = some ((Dec.val s.data.toList : Int), true) := by
  have := (parse_l0 s s.size k 0 0 (by omega) hk).1 (by rw [List.drop_zero]; exact h.1)
  have e0 : num_Parse.f k s = num_Parse.l0 k s 0 ((min 0 MX : Nat) : Int) := rfl
  rw [e0, this, List.drop_zero]
  have e : min (valF 0 s.data.toList) MX = Dec.val s.data.toList := Nat.min_eq_left h.2.2.2
  rw [e, if_neg]
  rw [Dec.dec_of _ h.1 h.2.1 h.2.2.1]; simp
theorem parse_bad (s : ByteArray) (k : Nat) (hk : s.size + 21 < k) (h : ¬ good s.data.toList) : num_Parse.f k s = some (0, false) := by
  have hp := parse_l0 s s.size k 0 0 (by omega) hk
  rw [List.drop_zero] at hp
  have e0 : num_Parse.f k s = num_Parse.l0 k s 0 ((min 0 MX : Nat) : Int) := rfl
  rw [e0]
  by_cases hd : allD s.data.toList
  · rw [hp.1 hd, if_pos]
    intro e
    exact h (dec_good e (Nat.min_le_right _ _)).1
  · rw [hp.2 hd]
theorem rdigit_f (c : UInt8) : turncockref1_digit.f (c.toNat : Int) = some (decide (48 ≤ c.toNat ∧ c.toNat ≤ 57)) := by
  unfold turncockref1_digit.f
  by_cases h : (c.toNat : Int) ≥ 48
  · rw [if_pos h]
    congr 1
    rw [decide_eq_decide]; omega
  · rw [if_neg h]
    congr 1
    rw [eq_comm, decide_eq_false_iff_not]; omega
theorem step_wrap (a d : Nat) (h : a * 10 + d ≤ 4611686018427387904) : wrap64 (wrap64 ((a : Int) * 10) + (d : Int)) = ((a * 10 + d : Nat) : Int) := by
  have e : wrap64 ((a : Int) * 10) = (a : Int) * 10 := by unfold wrap64; omega
  rw [e]
  unfold wrap64
  omega
theorem rparse_l0 (s : ByteArray) (hn : s.size ≤ 9000000000000000000) (d : Nat) : ∀ (k pos a : Nat), pos + d = s.size → a ≤ MX → d < k →
    (allD (s.data.toList.drop pos) ∧ valF a (s.data.toList.drop pos) ≤ MX → turncockref1_Parse.l0 k s (a : Int) (pos : Int) = some ((valF a (s.data.toList.drop pos) : Int), true)) ∧
    (¬ (allD (s.data.toList.drop pos) ∧ valF a (s.data.toList.drop pos) ≤ MX) → turncockref1_Parse.l0 k s (a : Int) (pos : Int) = some (0, false)) := by
  have hl : s.data.toList.length = s.size := by simp
  induction d with
  | zero =>
    intro k pos a hp ha hk
    obtain ⟨k, rfl⟩ : ∃ m, k = m + 1 := ⟨k - 1, by omega⟩
    have e : s.data.toList.drop pos = [] := List.drop_eq_nil_of_le (by omega)
    rw [e]
    refine ⟨fun _ => ?_, fun h => absurd ⟨fun c hc => by simp at hc, ha⟩ h⟩
    simp only [turncockref1_Parse.l0]
    rw [if_neg (by omega)]; rfl
  | succ d ih =>
    intro k pos a hp ha hk
    obtain ⟨k, rfl⟩ : ∃ m, k = m + 1 := ⟨k - 1, by omega⟩
    have hlt : pos < s.size := by omega
    have e : s.data.toList.drop pos = s[pos]'hlt :: s.data.toList.drop (pos + 1) := by
      rw [List.drop_eq_getElem_cons (by omega)]; rfl
    have hbt : bt s (pos : Int) = ((s[pos]'hlt).toNat : Int) := by
      unfold bt; simp only [Int.toNat_natCast]; rw [dif_pos hlt]
    rw [e]
    have hcons : allD (s[pos]'hlt :: s.data.toList.drop (pos + 1)) ↔ Dec.isDig (s[pos]'hlt) ∧ allD (s.data.toList.drop (pos + 1)) := by
      unfold allD; simp
    rw [hcons]
    generalize hb : s[pos]'hlt = b at *
    have hv : valF a (b :: s.data.toList.drop (pos + 1)) = valF (a * 10 + (b.toNat - 48)) (s.data.toList.drop (pos + 1)) := rfl
    rw [hv]
    have hblt := b.toNat_lt
    simp only [turncockref1_Parse.l0]
    rw [if_pos (by omega), if_pos (by omega), hbt, rdigit_f]
    simp only [Option.bind_some]
    by_cases hd : Dec.isDig b
    · have hd' := hd
      unfold Dec.isDig at hd'
      rw [if_pos (by simpa using hd')]
      have em : ((b.toNat : Int) - 48) % 256 = ((b.toNat - 48 : Nat) : Int) := by omega
      have hdb : b.toNat - 48 ≤ 9 := by omega
      rw [em]
      clear em hd'
      generalize hdd : b.toNat - 48 = dd at *
      have hge := valF_ge (s.data.toList.drop (pos + 1)) (a * 10 + dd)
      have e2 : wrap64 ((pos : Int) + 1) = ((pos + 1 : Nat) : Int) := by unfold wrap64; omega
      by_cases ho : (a : Int) > (4611686018427387904 - ((dd : Nat) : Int)) / 10
      · rw [if_pos ho]
        have hov : a * 10 + dd > MX := by unfold MX; omega
        refine ⟨fun h => ?_, fun _ => rfl⟩
        have := h.2
        omega
      · rw [if_neg ho]
        have hle : a * 10 + dd ≤ 4611686018427387904 := by omega
        rw [step_wrap a dd hle, e2]
        obtain ⟨h1, h2⟩ := ih k (pos + 1) (a * 10 + dd) (by omega) (by unfold MX; omega) (by omega)
        exact ⟨fun h => h1 ⟨h.1.2, h.2⟩, fun h => h2 (fun h' => h ⟨⟨hd, h'.1⟩, h'.2⟩)⟩
    · have hd' := hd
      unfold Dec.isDig at hd'
      rw [if_neg (by simp; omega)]
      exact ⟨fun h => absurd h.1.1 hd, fun _ => rfl⟩
theorem good_len {l : List UInt8} (h : good l) : 1 ≤ l.length ∧ l.length ≤ 19 := by
  refine ⟨List.length_pos_iff.2 h.2.1, ?_⟩
  have e := Dec.dec_of l h.1 h.2.1 h.2.2.1
  have := Dec.dec_len 18 (Dec.val l) (by have := h.2.2.2; unfold MX at this; omega)
  rw [e] at this
  exact this
theorem head_bt (s : ByteArray) (h : 0 < s.size) : (bt s 0 == 48) = decide (s.data.toList.head? = some 48) := by
  have hl : s.data.toList.length = s.size := by simp
  have e : bt s 0 = ((s[0]'h).toNat : Int) := by unfold bt; rw [dif_pos (show (0 : Int).toNat < s.size from h)]; rfl
  have e2 : s.data.toList.head? = some (s[0]'h) := by rw [List.head?_eq_getElem?, List.getElem?_eq_getElem (by omega)]; rfl
  rw [e, e2, Bool.eq_iff_iff, beq_iff_eq, decide_eq_true_iff]
  constructor
  · intro h; congr 1; apply UInt8.toNat_inj.1; have e3 : (48 : UInt8).toNat = 48 := rfl; omega
  · intro h; rw [Option.some.inj h]; rfl
theorem rparse_good (s : ByteArray) (hn : s.size ≤ 9000000000000000000) (k : Nat) (hk : s.size + 1 < k) (h : good s.data.toList) : turncockref1_Parse.f k s = some ((Dec.val s.data.toList : Int), true) := by
  have hl : s.data.toList.length = s.size := by simp
  have hlen := good_len h
  obtain ⟨k, rfl⟩ : ∃ m, k = m + 1 := ⟨k - 1, by omega⟩
  have hp := (rparse_l0 s hn s.size k 0 0 (by omega) (by unfold MX; omega) (by omega)).1 (by rw [List.drop_zero]; exact ⟨h.1, h.2.2.2⟩)
  rw [List.drop_zero] at hp
  have hj : turncockref1_Parse.j0 (k + 1) s false = some ((Dec.val s.data.toList : Int), true) := by
    simp only [turncockref1_Parse.j0]
    rw [if_neg (by decide)]; exact hp
  unfold turncockref1_Parse.f
  rw [if_neg (by omega), if_neg (by omega)]
  by_cases h1 : (s.size : Int) > 1
  · rw [if_pos h1, if_pos (by omega), head_bt s (by omega), decide_eq_false]
    · exact hj
    · rcases h.2.2.1 with h3 | h3
      · omega
      · exact h3
  · rw [if_neg h1]; exact hj
theorem rparse_bad (s : ByteArray) (hn : s.size ≤ 9000000000000000000) (k : Nat) (hk : s.size + 1 < k) (h : ¬ good s.data.toList) : turncockref1_Parse.f k s = some (0, false) := by
  have hl : s.data.toList.length = s.size := by simp
  obtain ⟨k, rfl⟩ : ∃ m, k = m + 1 := ⟨k - 1, by omega⟩
  have hjt : turncockref1_Parse.j0 (k + 1) s true = some (0, false) := by
    simp only [turncockref1_Parse.j0]; rfl
  have hjf : s.data.toList ≠ [] → (s.data.toList.length = 1 ∨ s.data.toList.head? ≠ some 48) → turncockref1_Parse.j0 (k + 1) s false = some (0, false) := by
    intro h1 h2
    have hp := (rparse_l0 s hn s.size k 0 0 (by omega) (by unfold MX; omega) (by omega)).2 (by rw [List.drop_zero]; exact fun h3 => h ⟨h3.1, h1, h2, h3.2⟩)
    simp only [turncockref1_Parse.j0]
    rw [if_neg (by decide)]; exact hp
  unfold turncockref1_Parse.f
  by_cases h1 : (s.size : Int) < 1
  · rw [if_pos h1]; exact hjt
  rw [if_neg h1]
  by_cases h2 : (s.size : Int) > 19
  · rw [if_pos h2]; exact hjt
  rw [if_neg h2]
  have hne : s.data.toList ≠ [] := List.length_pos_iff.1 (by omega)
  by_cases h3 : (s.size : Int) > 1
  · rw [if_pos h3, if_pos (by omega), head_bt s (by omega)]
    by_cases h4 : s.data.toList.head? = some 48
    · rw [decide_eq_true h4]; exact hjt
    · rw [decide_eq_false h4]; exact hjf hne (.inr h4)
  · rw [if_neg h3]; exact hjf hne (.inl (by omega))
theorem index_bar (s : ByteArray) : strings_IndexByte.f s 124 = some (Lib.indexByte s.data.toList 124) := rfl
theorem index_bar_iff (s : ByteArray) : Lib.indexByte s.data.toList 124 ≥ 0 ↔ 124 ∈ s.data.toList := by
  have h : ∀ l : List UInt8, 0 ≤ Lib.indexByte l 124 ↔ 124 ∈ l := by
    intro l
    induction l with
    | nil => simp [Lib.indexByte]
    | cons b l ih =>
      have hg := Lib.indexByte_ge l 124
      unfold Lib.indexByte
      by_cases hb : b = 124
      · simp [hb]
      · have hb1 : (b == 124) = false := beq_eq_false_iff_ne.2 hb
        rw [hb1, List.mem_cons]
        by_cases hm : Lib.indexByte l 124 = -1
        · have hn : ¬ 124 ∈ l := fun h => by have := ih.2 h; omega
          simp [hm, hn]
          exact fun e => hb e.symm
        · have hm1 : (Lib.indexByte l 124 == -1) = false := beq_eq_false_iff_ne.2 hm
          have hy : 124 ∈ l := ih.1 (by omega)
          simp [hm1, hy]
          omega
  exact h _
theorem bar_loop (s : ByteArray) (hn : s.size ≤ 9000000000000000000) (d : Nat) : ∀ i : Nat, i + d = s.size → Ev (fun k => turncockref20_bar.l0 k s (i : Int)) (decide (124 ∈ s.data.toList.drop i)) := by
  induction d with
  | zero =>
    intro i hi
    rw [List.drop_eq_nil_of_le (by rw [size_data]; omega)]
    refine Ev.step (f := fun _ => some false) (fun k => ?_) (Ev.now _)
    simp only [turncockref20_bar.l0]; rw [if_neg (by omega)]
  | succ d ih =>
    intro i hi
    have hlt : i < s.data.toList.length := by rw [size_data]; omega
    have hb := bt_get s i (by omega)
    rw [List.drop_eq_getElem_cons hlt]
    generalize hc : s.data.toList[i] = c at hb
    by_cases h : c = 124
    · rw [decide_eq_true (show 124 ∈ c :: s.data.toList.drop (i + 1) by rw [h]; simp)]
      refine Ev.step (f := fun _ => some true) (fun k => ?_) (Ev.now _)
      simp only [turncockref20_bar.l0]
      rw [if_pos (by omega), if_pos (by omega), if_pos (by rw [hb, h]; rfl)]
    · have e : decide (124 ∈ c :: s.data.toList.drop (i + 1)) = decide (124 ∈ s.data.toList.drop (i + 1)) := by
        rw [decide_eq_decide, List.mem_cons]
        exact ⟨fun q => q.resolve_left (fun q => h q.symm), .inr⟩
      rw [e]
      refine Ev.step (f := fun k => turncockref20_bar.l0 k s ((i + 1 : Nat) : Int)) (fun k => ?_) (ih (i + 1) (by omega))
      have hne : ¬ bt s (i : Int) = 124 := by
        rw [hb]
        intro q
        exact h (by apply UInt8.toNat_inj.1; have : (124 : UInt8).toNat = 124 := rfl; omega)
      simp only [turncockref20_bar.l0]
      rw [if_pos (by omega), if_pos (by omega), if_neg hne, step1 (show i < s.size by omega) hn]
theorem bar_ev (s : ByteArray) (hn : s.size ≤ 9000000000000000000) : Ev (fun k => turncockref20_bar.f k s) (decide (124 ∈ s.data.toList)) := by
  have := bar_loop s hn s.size 0 (Nat.zero_add _)
  rw [List.drop_zero] at this
  exact this
theorem bang_at (s : ByteArray) (a b : List UInt8) (j : Nat) (h : s.data.toList = a ++ 124 :: b) (hj : j < s.size) :
    (j = a.length → ((s.data[j]!).toNat : Int) = 124) ∧ (∀ t : Nat, j = a.length + 1 + t → ((s.data[j]!).toNat : Int) = 124 → 124 ∈ b) := by
  have e0 : s.data[j]! = s.data.toList[j]'(by rw [size_data]; exact hj) := by rw [getElem!_pos s.data j hj]; rfl
  refine ⟨fun e => ?_, fun t e h2 => ?_⟩
  · subst e
    rw [e0]
    simp [h]
  · subst e
    rw [e0] at h2
    have e1 : s.data.toList[a.length + 1 + t]'(by rw [size_data]; exact hj) = b[t]'(by rw [← size_data, h, List.length_append, List.length_cons] at hj; omega) := by
      simp only [h]
      rw [List.getElem_append_right (by omega)]
      simp only [show a.length + 1 + t - a.length = t + 1 by omega, List.getElem_cons_succ]
    rw [e1] at h2
    have h3 : b[t]'(by rw [← size_data, h, List.length_append, List.length_cons] at hj; omega) = 124 := by
      apply UInt8.toNat_inj.1
      have : (124 : UInt8).toNat = 124 := rfl
      omega
    rw [← h3]; exact List.getElem_mem _
theorem kcut_hit (s : ByteArray) (a b : List UInt8) (h : s.data.toList = a ++ 124 :: b) (hb : 124 ∉ b) (hn : s.size ≤ 1000000000) : key_cut.f s = some (bts a, bts b, true) := by
  have hz : s.size = a.length + b.length + 1 := by rw [← size_data, h, List.length_append, List.length_cons]; omega
  have hi : Lib.lastIndexByte s 124 = (a.length : Int) := by
    rcases Lib.lastIndexByte_spec s 124 with ⟨_, h2⟩ | ⟨i, hi, e, hc, hno⟩
    · exact absurd ((bang_at s a b a.length h (by omega)).1 rfl) (h2 a.length (by omega))
    · rw [e]
      rcases Nat.lt_trichotomy i a.length with hl | hl | hl
      · exact absurd ((bang_at s a b a.length h (by omega)).1 rfl) (hno a.length hl (by omega))
      · rw [hl]
      · exact absurd ((bang_at s a b i h hi).2 (i - a.length - 1) (by omega) hc) hb
  have e1 : s.extract 0 a.length = bts a := bts_inj (by rw [Lib.extract_from_zero, h, List.take_left' rfl])
  have e2 : s.extract (a.length + 1) s.size = bts b := bts_inj (by rw [Lib.extract_to_end, h, show a ++ 124 :: b = (a ++ [124]) ++ b from by simp, List.drop_left' (by simp)])
  unfold key_cut.f strings_LastIndexByte.f
  rw [if_pos (show s.size < 4611686018427387904 by omega), hi, Option.bind_some, if_neg (by omega), if_pos (by omega), if_pos (by omega), step1 (show a.length < s.size by omega) (by omega), if_pos (by omega), if_pos (by omega)]
  simp only [Int.toNat_natCast]
  rw [e1, e2]
theorem kcut_miss (s : ByteArray) (h : 124 ∉ s.data.toList) (hn : s.size ≤ 1000000000) : key_cut.f s = some (bts [], bts [], false) := by
  have hi : Lib.lastIndexByte s 124 = -1 := by
    rcases Lib.lastIndexByte_spec s 124 with ⟨e, _⟩ | ⟨i, hi, e, hc, hno⟩
    · exact e
    · have e0 : s.data[i]! = s.data.toList[i]'(by rw [size_data]; exact hi) := by rw [getElem!_pos s.data i hi]; rfl
      rw [e0] at hc
      have h3 : s.data.toList[i]'(by rw [size_data]; exact hi) = 124 := by
        apply UInt8.toNat_inj.1
        have : (124 : UInt8).toNat = 124 := rfl
        omega
      exact absurd (by rw [← h3]; exact List.getElem_mem _) h
  unfold key_cut.f strings_LastIndexByte.f
  rw [if_pos (show s.size < 4611686018427387904 by omega), hi, Option.bind_some, if_pos (by omega)]
  rfl
def uof (l : List UInt8) : Int := if l = [115, 101, 99, 111, 110, 100] then 1 else if l = [109, 105, 110, 117, 116, 101] then 2 else if l = [104, 111, 117, 114] then 3 else if l = [100, 97, 121] then 4 else 0
theorem arr_ne {s : ByteArray} {l : List UInt8} (h : ¬ s.data.toList = l) : ¬ s.data = l.toArray := fun e => h (by rw [e])
theorem of_f (s : ByteArray) (k : Nat) : unit_Of.f (k + 8) s = some (uof s.data.toList) := by
  unfold uof
  by_cases h0 : s.data.toList = []
  · simp [unit_Of.f, unit_names.f, slices_Index_string_string.f, slices_Index_string_string.l0, rdOf, h0, ByteArray.toList_eq, mx, wrap64]
  by_cases h1 : s.data.toList = [115, 101, 99, 111, 110, 100]
  · simp [unit_Of.f, unit_names.f, slices_Index_string_string.f, slices_Index_string_string.l0, rdOf, h1, ByteArray.toList_eq, mx, wrap64]
  by_cases h2 : s.data.toList = [109, 105, 110, 117, 116, 101]
  · simp [unit_Of.f, unit_names.f, slices_Index_string_string.f, slices_Index_string_string.l0, rdOf, h2, ByteArray.toList_eq, mx, wrap64]
  by_cases h3 : s.data.toList = [104, 111, 117, 114]
  · simp [unit_Of.f, unit_names.f, slices_Index_string_string.f, slices_Index_string_string.l0, rdOf, h3, ByteArray.toList_eq, mx, wrap64]
  by_cases h4 : s.data.toList = [100, 97, 121]
  · simp [unit_Of.f, unit_names.f, slices_Index_string_string.f, slices_Index_string_string.l0, rdOf, h4, ByteArray.toList_eq, mx, wrap64]
  rw [if_neg h1, if_neg h2, if_neg h3, if_neg h4]
  have q0 := arr_ne h0
  have q1 := arr_ne h1
  have q2 := arr_ne h2
  have q3 := arr_ne h3
  have q4 := arr_ne h4
  simp [unit_Of.f, unit_names.f, slices_Index_string_string.f, slices_Index_string_string.l0, rdOf, q0, q1, q2, q3, q4, ByteArray.toList_eq, mx, wrap64]
theorem of_ev (s : ByteArray) : Ev (fun k => unit_Of.f k s) (uof s.data.toList) := ⟨8, fun k hk => by
  obtain ⟨m, rfl⟩ : ∃ m, k = m + 8 := ⟨k - 8, by omega⟩
  exact of_f s m⟩
theorem last_split : ∀ (l : List UInt8), 124 ∈ l → ∃ a b, l = a ++ 124 :: b ∧ 124 ∉ b := by
  intro l h
  obtain ⟨a, b, e, hn⟩ := List.eq_append_cons_of_mem (List.mem_reverse.2 h)
  refine ⟨b.reverse, a.reverse, ?_, fun q => hn (List.mem_reverse.1 q)⟩
  rw [← List.reverse_reverse l, e]
  simp
theorem last_hit (s : ByteArray) (a b : List UInt8) (h : s.data.toList = a ++ 124 :: b) (hb : 124 ∉ b) (hn : s.size ≤ 1000000000) (t : Nat) : t ≤ b.length →
    Ev (fun k => turncockref20_last.l0 k s ((a.length + t : Nat) : Int)) (bts a, bts b, true) := by
  have hz : s.size = a.length + b.length + 1 := by rw [← size_data, h, List.length_append, List.length_cons]; omega
  induction t with
  | zero =>
    intro _
    have hb : bt s (a.length : Int) = 124 := by rw [bt_get s _ (by omega)]; simp [h]
    have e1 : s.extract 0 a.length = bts a := bts_inj (by rw [Lib.extract_from_zero, h, List.take_left' rfl])
    have e2 : s.extract (a.length + 1) s.size = bts b := bts_inj (by rw [Lib.extract_to_end, h, show a ++ 124 :: b = (a ++ [124]) ++ b from by simp, List.drop_left' (by simp)])
    refine Ev.step (f := fun _ => some (bts a, bts b, true)) (fun k => ?_) (Ev.now _)
    simp only [turncockref20_last.l0, Nat.add_zero]
    rw [if_pos (by omega), if_pos (by omega), if_pos (by omega), if_pos hb, if_pos (by omega), step1 (show a.length < s.size by omega) (by omega), if_pos (by omega), if_pos (by omega)]
    simp only [Int.toNat_natCast]
    rw [e1, e2]
  | succ t ih =>
    intro ht
    have hne : ¬ bt s ((a.length + (t + 1) : Nat) : Int) = 124 := by
      rw [bt_get s _ (by omega)]
      intro e
      have e1 : s.data.toList[a.length + (t + 1)]'(by rw [size_data]; omega) = b[t]'(by omega) := by
        simp only [h]
        rw [List.getElem_append_right (by omega)]
        simp only [show a.length + (t + 1) - a.length = t + 1 by omega, List.getElem_cons_succ]
      rw [e1] at e
      have h3 : b[t]'(by omega) = 124 := by
        apply UInt8.toNat_inj.1
        have : (124 : UInt8).toNat = 124 := rfl
        omega
      exact hb (by rw [← h3]; exact List.getElem_mem _)
    refine Ev.step (f := fun k => turncockref20_last.l0 k s ((a.length + t : Nat) : Int)) (fun k => ?_) (ih (by omega))
    simp only [turncockref20_last.l0]
    rw [if_pos (by omega), if_pos (by omega), if_pos (by omega), if_neg hne, show wrap64 (((a.length + (t + 1) : Nat) : Int) - 1) = ((a.length + t : Nat) : Int) from by unfold wrap64; omega]
theorem last_miss (s : ByteArray) (h : 124 ∉ s.data.toList) (hn : s.size ≤ 1000000000) (n : Nat) : n ≤ s.size → Ev (fun k => turncockref20_last.l0 k s ((n : Int) - 1)) (bts [], bts [], false) := by
  induction n with
  | zero =>
    intro _
    refine Ev.step (f := fun _ => some (bts [], bts [], false)) (fun k => ?_) (Ev.now _)
    simp only [turncockref20_last.l0]; rw [if_neg (by omega)]; rfl
  | succ n ih =>
    intro ht
    have hne : ¬ bt s (n : Int) = 124 := by
      rw [bt_get s _ (by omega)]
      intro e
      have h3 : s.data.toList[n]'(by rw [size_data]; omega) = 124 := by
        apply UInt8.toNat_inj.1
        have : (124 : UInt8).toNat = 124 := rfl
        omega
      exact h (by rw [← h3]; exact List.getElem_mem _)
    refine Ev.step (f := fun k => turncockref20_last.l0 k s ((n : Int) - 1)) (fun k => ?_) (ih (by omega))
    simp only [turncockref20_last.l0, show (((n + 1 : Nat) : Int) - 1) = (n : Int) by omega]
    rw [if_pos (by omega), if_pos (by omega), if_pos (by omega), if_neg hne, show wrap64 ((n : Int) - 1) = (n : Int) - 1 from by unfold wrap64; omega]
theorem cuts_same (s : ByteArray) (hn : s.size ≤ 1000000000) : ∃ r, key_cut.f s = some r ∧ Ev (fun k => turncockref20_last.f k s) r ∧ r.1.size ≤ s.size ∧ r.2.1.size ≤ s.size := by
  have hf : ∀ k, turncockref20_last.f k s = turncockref20_last.l0 k s ((s.size : Int) - 1) := fun k => by unfold turncockref20_last.f; rw [show wrap64 ((s.size : Int) - 1) = (s.size : Int) - 1 from by unfold wrap64; omega]
  by_cases h : 124 ∈ s.data.toList
  · obtain ⟨a, b, e, hb⟩ := last_split _ h
    have hz : s.size = a.length + b.length + 1 := by rw [← size_data, e, List.length_append, List.length_cons]; omega
    refine ⟨_, kcut_hit s a b e hb hn, Ev.congr hf ?_, by simp only [bts_size]; omega, by simp only [bts_size]; omega⟩
    have := last_hit s a b e hb hn b.length (Nat.le_refl _)
    rw [show ((a.length + b.length : Nat) : Int) = (s.size : Int) - 1 by omega] at this
    exact this
  · exact ⟨_, kcut_miss s h hn, Ev.congr hf (last_miss s h hn s.size (Nat.le_refl _)), by simp only [bts_size]; exact Nat.zero_le _, by simp only [bts_size]; exact Nat.zero_le _⟩
theorem rof_f (s : ByteArray) (k : Nat) : turncockref15_UnitOf.f (k + 8) s = some (uof s.data.toList) := by
  unfold uof
  by_cases h1 : s.data.toList = [115, 101, 99, 111, 110, 100]
  · simp [turncockref15_UnitOf.f, turncockref15_UnitOf.l0, turncockref15_Unit.f, h1, ByteArray.toList_eq, wrap64]
  by_cases h2 : s.data.toList = [109, 105, 110, 117, 116, 101]
  · simp [turncockref15_UnitOf.f, turncockref15_UnitOf.l0, turncockref15_Unit.f, h2, ByteArray.toList_eq, wrap64]
  by_cases h3 : s.data.toList = [104, 111, 117, 114]
  · simp [turncockref15_UnitOf.f, turncockref15_UnitOf.l0, turncockref15_Unit.f, h3, ByteArray.toList_eq, wrap64]
  by_cases h4 : s.data.toList = [100, 97, 121]
  · simp [turncockref15_UnitOf.f, turncockref15_UnitOf.l0, turncockref15_Unit.f, h4, ByteArray.toList_eq, wrap64]
  rw [if_neg h1, if_neg h2, if_neg h3, if_neg h4]
  have g1 : ¬ (#[115, 101, 99, 111, 110, 100] : Array UInt8) = s.data := fun h => arr_ne h1 h.symm
  have g2 : ¬ (#[109, 105, 110, 117, 116, 101] : Array UInt8) = s.data := fun h => arr_ne h2 h.symm
  have g3 : ¬ (#[104, 111, 117, 114] : Array UInt8) = s.data := fun h => arr_ne h3 h.symm
  have g4 : ¬ (#[100, 97, 121] : Array UInt8) = s.data := fun h => arr_ne h4 h.symm
  simp [turncockref15_UnitOf.f, turncockref15_UnitOf.l0, turncockref15_Unit.f, g1, g2, g3, g4, ByteArray.toList_eq, wrap64]
theorem rof_ev (s : ByteArray) : Ev (fun k => turncockref15_UnitOf.f k s) (uof s.data.toList) := ⟨8, fun k hk => by
  obtain ⟨m, rfl⟩ : ∃ m, k = m + 8 := ⟨k - 8, by omega⟩
  exact rof_f s m⟩
theorem parses_same (s : ByteArray) (hn : s.size ≤ 1000000000) : ∃ r : Int × Bool, Ev (fun k => num_Parse.f k s) r ∧ Ev (fun k => turncockref1_Parse.f k s) r := by
  by_cases hg : good s.data.toList
  · exact ⟨_, ⟨s.size + 22, fun k hk => parse_good s k (by omega) hg⟩, ⟨s.size + 2, fun k hk => rparse_good s (by omega) k (by omega) hg⟩⟩
  · exact ⟨_, ⟨s.size + 22, fun k hk => parse_bad s k (by omega) hg⟩, ⟨s.size + 2, fun k hk => rparse_bad s (by omega) k (by omega) hg⟩⟩
theorem Ev.ite {α : Type} {c : Prop} [Decidable c] {f g : Nat → Option α} {r : α} (h1 : c → Ev f r) (h2 : ¬ c → Ev g r) : Ev (fun n => if c then f n else g n) r := by
  by_cases h : c
  · simp only [h, if_true]; exact h1 h
  · simp only [h, if_false]; exact h2 h
theorem awake_ev : ∃ K, ∀ k, K ≤ k → turncocklaw25_awake.f k = some true := Ev.of turncocklaw25_awake.mono (k := 40) (by decide +kernel)
theorem kparses_same (s : ByteArray) (hn : s.size ≤ 3000) : ∃ r : ByteArray × List S47 × Int × Int × Bool, Ev (fun k => key_Parse.f k s) r ∧ Ev (fun k => turncockref20_ParseKey.f k s) r ∧ r.2.1.length ≤ 8 := by
  obtain ⟨r1, a1, b1, z1, y1⟩ := cuts_same s (by omega)
  obtain ⟨r2, a2, b2, z2, y2⟩ := cuts_same r1.1 (by omega)
  obtain ⟨r3, a3, b3, z3, y3⟩ := cuts_same r2.1 (by omega)
  obtain ⟨n, c1, c2⟩ := parses_same r1.2.1 (by omega)
  obtain ⟨d, d1, d2, d3⟩ := reads_same r3.2.1 (by omega)
  have hd : d.1.length ≤ 8 := by
    rcases d3 with rfl | ⟨_, h2, _, h4⟩
    · simp
    · exact (ck_size h4 h2).2.1
  obtain ⟨r, hv, hl⟩ : ∃ r : ByteArray × List S47 × Int × Int × Bool, (if r1.2.2 = true then (if r2.2.2 = true then (if r3.2.2 = true then (if n.2 = true then (if d.2 = true then (if uof r2.2.1.data.toList = 0 then (some (bts [], ([] : List S47), (0 : Int), (0 : Int), false)) else (if r3.1.toList = ([] : List UInt8) then (some (bts [], ([] : List S47), (0 : Int), (0 : Int), false)) else (if 124 ∈ r3.1.data.toList then (some (bts [], ([] : List S47), (0 : Int), (0 : Int), false)) else (some (r3.1, d.1, uof r2.2.1.data.toList, n.1, true))))) else (some (bts [], ([] : List S47), (0 : Int), (0 : Int), false))) else (some (bts [], ([] : List S47), (0 : Int), (0 : Int), false))) else (some (bts [], ([] : List S47), (0 : Int), (0 : Int), false))) else (some (bts [], ([] : List S47), (0 : Int), (0 : Int), false))) else (some (bts [], ([] : List S47), (0 : Int), (0 : Int), false))) = some r ∧ r.2.1.length ≤ 8 := by
    repeat' split
    all_goals first
      | exact ⟨_, rfl, hd⟩
      | exact ⟨_, rfl, by simp⟩
  refine ⟨r, ?_, ?_, hl⟩
  · unfold key_Parse.f
    simp only [a1, a2, a3, Option.bind_some]
    refine Ev.bind c1 ?_
    refine Ev.bind d1 ?_
    refine Ev.bind (of_ev _) ?_
    simp only [index_bar, Option.bind_some, index_bar_iff]
    exact ⟨0, fun k _ => hv⟩
  · unfold turncockref20_ParseKey.f
    refine Ev.bind b1 ?_
    refine Ev.bind b2 ?_
    refine Ev.bind b3 ?_
    refine Ev.bind c2 ?_
    refine Ev.bind d2 ?_
    refine Ev.bind (rof_ev _) ?_
    refine Ev.ite (fun h => ?_) (fun h => ?_)
    rotate_left
    · rw [if_neg h] at hv; obtain rfl := Option.some.inj hv; exact Ev.now _
    rw [if_pos h] at hv
    clear h
    refine Ev.ite (fun h => ?_) (fun h => ?_)
    rotate_left
    · rw [if_neg h] at hv; obtain rfl := Option.some.inj hv; exact Ev.now _
    rw [if_pos h] at hv
    clear h
    refine Ev.ite (fun h => ?_) (fun h => ?_)
    rotate_left
    · rw [if_neg h] at hv; obtain rfl := Option.some.inj hv; exact Ev.now _
    rw [if_pos h] at hv
    clear h
    refine Ev.ite (fun h => ?_) (fun h => ?_)
    rotate_left
    · rw [if_neg h] at hv; obtain rfl := Option.some.inj hv; exact Ev.now _
    rw [if_pos h] at hv
    clear h
    refine Ev.ite (fun h => ?_) (fun h => ?_)
    rotate_left
    · rw [if_neg h] at hv; obtain rfl := Option.some.inj hv; exact Ev.now _
    rw [if_pos h] at hv
    clear h
    refine Ev.ite (fun h => ?_) (fun h => ?_)
    · rw [if_pos h] at hv; obtain rfl := Option.some.inj hv; exact Ev.now _
    rw [if_neg h] at hv
    clear h
    refine Ev.ite (fun h => ?_) (fun h => ?_)
    · rw [if_pos h] at hv; obtain rfl := Option.some.inj hv; exact Ev.now _
    rw [if_neg h] at hv
    clear h
    refine Ev.bind (bar_ev r3.1 (by omega)) ?_
    by_cases h : 124 ∈ r3.1.data.toList
    · rw [if_pos h] at hv; obtain rfl := Option.some.inj hv
      simp only [h, decide_true, if_true]; exact Ev.now _
    · rw [if_neg h] at hv; obtain rfl := Option.some.inj hv
      simp only [h, decide_false, Bool.false_eq_true, if_false]; exact Ev.now _
theorem awake_ev' : Ev (fun k => turncocklaw25_awake.f k) true := by
  obtain ⟨K, hK⟩ := awake_ev
  exact ⟨K, hK⟩
theorem awake_ev2 : Ev (fun k => (turncocklaw25_awake.f k).bind fun t => some t) true := Ev.bind awake_ev' (Ev.now _)
theorem KeyParses : turncocklaw25_KeyParses.Pure := by
  intro s _
  suffices h : Ev (fun k => turncocklaw25_KeyParses.f k s) true from h.rounds
  unfold turncocklaw25_KeyParses.f
  by_cases h0 : (s.size : Int) > 3000
  · simp only [h0, if_true]; exact awake_ev2
  · simp only [h0, if_false]
    obtain ⟨r, h1, h2, h3⟩ := kparses_same s (by omega)
    refine Ev.bind h1 ?_
    refine Ev.bind h2 ?_
    simp only [if_true]
    refine Ev.bind (same_ev r.2.1 (by omega)) ?_
    simp only [if_true, BEq.rfl]
    exact awake_ev2

end Go.Proofs.YtpemmaffbcbcjaaDoor.Pure
