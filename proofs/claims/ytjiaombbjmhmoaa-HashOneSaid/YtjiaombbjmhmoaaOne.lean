/- HashOne: two texts of one length that part in one byte have unlike sums, for every text of at most 2000 bytes, place and byte; no condition. -/
import Derived.Test.YtjiaombbjmhmoaaPHashSumsx1
import Derived.Test.YtjiaombbjmhmoaaOneWalk
import Derived.Lib.Strings
set_option linter.unusedVariables false
namespace Go.Proofs.Ytjiaombbjmhmoaa.One
open Go.RowKit Go.Proofs.Ytjiaombbjmhmoaa.PHashSums Go.Proofs.YtjiaombbjmhmoaaW.PrintWords Go.Proofs.YtjiaombbjmhmoaaW.PrintLast Go.Proofs.YtjiaombbjmhmoaaW.PrintMore

theorem wrap_step {i : Int} {n : Nat} (h0 : 0 ≤ i) (h : i < (n : Int)) (hn : n ≤ 9000000000000000000) : wrap64 (i + 1) = i + 1 := by
  unfold wrap64
  omega
theorem u64_rng (x : Int) : 0 ≤ IntKind.u64.wrap x ∧ IntKind.u64.wrap x < 18446744073709551616 := by
  rw [IntKind.wrap_u64]; omega
/-- The sum of the bytes from i on, d of them, upon h. -/
def sumR (s : ByteArray) : Nat → Int → Int → Int
  | 0, h, _ => h
  | d + 1, h, i => sumR s d (IntKind.u64.wrap ((Go.bits .xor .u64 h (IntKind.u64.wrap (bt s i))) * 1099511628211)) (i + 1)
theorem sumR_rng (s : ByteArray) (d : Nat) : ∀ h i, 0 ≤ h → h < 18446744073709551616 → 0 ≤ sumR s d h i ∧ sumR s d h i < 18446744073709551616 := by
  induction d with
  | zero => intro h i h0 h1; exact ⟨h0, h1⟩
  | succ d ih => intro h i _ _; exact ih _ _ (u64_rng _).1 (u64_rng _).2
theorem hash_l0 (s : ByteArray) (hn : s.size ≤ 9000000000000000000) (d : Nat) : ∀ (k : Nat) (h i : Int), 0 ≤ i → i ≤ s.size → (s.size : Int) - i = d → d < k →
    hash_Sum.l0 k s h (s.size : Int) i = some (sumR s d h i) := by
  induction d with
  | zero =>
    intro k h i h0 h1 hd hk
    obtain ⟨k, rfl⟩ : ∃ m, k = m + 1 := ⟨k - 1, by omega⟩
    simp only [hash_Sum.l0]; rw [if_neg (by omega)]; rfl
  | succ d ih =>
    intro k h i h0 h1 hd hk
    obtain ⟨k, rfl⟩ : ∃ m, k = m + 1 := ⟨k - 1, by omega⟩
    simp only [hash_Sum.l0]; rw [if_pos (by omega), if_pos h0, if_pos (by omega), wrap_step h0 (by omega) hn]
    exact ih k _ _ (by omega) (by omega) (by omega) (by omega)
theorem hash_f (s : ByteArray) (hn : s.size ≤ 9000000000000000000) (k : Nat) (hk : s.size < k) : hash_Sum.f k s = some (sumR s s.size 14695981039346656037 0) :=
  hash_l0 s hn s.size k _ 0 (by omega) (by omega) (by omega) hk
theorem awake_ev : ∃ K, ∀ k, K ≤ k → turncocklaw20_awake.f k = some true := Ev.of turncocklaw20_awake.mono (k := 3) (by decide +kernel)

def fB (h : BitVec 64) (b : UInt8) : BitVec 64 := (h ^^^ BitVec.ofNat 64 b.toNat) * 1099511628211#64
theorem step_eq (H : BitVec 64) (b : UInt8) : IntKind.u64.wrap ((Go.bits .xor .u64 (H.toNat : Int) (IntKind.u64.wrap (b.toNat : Int))) * 1099511628211) = ((fB H b).toNat : Int) := by
  have hb := b.toNat_lt
  have hH := H.isLt
  have e1 : IntKind.u64.wrap (b.toNat : Int) = (b.toNat : Int) := by rw [IntKind.wrap_u64]; omega
  rw [e1, bits_xor_u64_nat _ _ (by omega) (by omega), IntKind.wrap_u64]
  unfold fB
  rw [BitVec.toNat_mul, BitVec.toNat_xor, BitVec.toNat_ofNat, Nat.mod_eq_of_lt (show b.toNat < 2 ^ 64 by omega)]
  rw [show (1099511628211#64).toNat = 1099511628211 from rfl]
  omega
theorem fB_inj_h (x y : BitVec 64) (b : UInt8) (h : fB x b = fB y b) : x = y := by
  unfold fB at h
  have h2 := congrArg (fun z => z * 14886173955864302971#64) h
  simp only [BitVec.mul_assoc] at h2
  rw [show (1099511628211#64 * 14886173955864302971#64 : BitVec 64) = 1#64 from by decide +kernel] at h2
  simp only [BitVec.mul_one] at h2
  have h3 := congrArg (fun z => z ^^^ BitVec.ofNat 64 b.toNat) h2
  simpa [BitVec.xor_assoc] using h3
theorem fB_inj_b (x : BitVec 64) (b c : UInt8) (h : fB x b = fB x c) : b = c := by
  unfold fB at h
  have h2 := congrArg (fun z => z * 14886173955864302971#64) h
  simp only [BitVec.mul_assoc] at h2
  rw [show (1099511628211#64 * 14886173955864302971#64 : BitVec 64) = 1#64 from by decide +kernel] at h2
  simp only [BitVec.mul_one] at h2
  have h3 := congrArg (fun z => x ^^^ z) h2
  simp only [← BitVec.xor_assoc, BitVec.xor_self, BitVec.zero_xor] at h3
  have h4 := congrArg BitVec.toNat h3
  simp only [BitVec.toNat_ofNat] at h4
  have := b.toNat_lt
  have := c.toNat_lt
  exact UInt8.toNat_inj.1 (by omega)
theorem foldl_inj (l : List UInt8) : ∀ x y : BitVec 64, l.foldl fB x = l.foldl fB y → x = y := by
  induction l with
  | nil => intro x y h; exact h
  | cons a l ih => intro x y h; exact fB_inj_h _ _ _ (ih _ _ h)
theorem bt_nat (s : ByteArray) (j : Nat) (h : j < s.size) : bt s (j : Int) = ((s.data.toList[j]'(by simpa using h)).toNat : Int) := by
  have e : ((j : Int)).toNat = j := by omega
  unfold bt
  simp only [e]
  rw [dif_pos h]
  rfl
theorem sumR_fold (s : ByteArray) (d : Nat) : ∀ (H : BitVec 64) (j : Nat), j + d = s.size → sumR s d (H.toNat : Int) (j : Int) = (((s.data.toList.drop j).foldl fB H).toNat : Int) := by
  induction d with
  | zero =>
    intro H j hj
    have hl : s.data.toList.length = s.size := by simp
    rw [List.drop_eq_nil_of_le (by omega)]; rfl
  | succ d ih =>
    intro H j hj
    have hl : s.data.toList.length = s.size := by simp
    rw [List.drop_eq_getElem_cons (by omega), List.foldl_cons, ← ih _ (j + 1) (by omega)]
    show sumR s d (IntKind.u64.wrap ((Go.bits .xor .u64 (H.toNat : Int) (IntKind.u64.wrap (bt s j))) * 1099511628211)) ((j : Int) + 1) = _
    rw [bt_nat s j (by omega), step_eq]
    rfl
theorem hash_fold (s : ByteArray) (hn : s.size ≤ 9000000000000000000) (k : Nat) (hk : s.size < k) : hash_Sum.f k s = some ((s.data.toList.foldl fB 14695981039346656037#64).toNat : Int) := by
  rw [hash_f s hn k hk]
  have := sumR_fold s s.size 14695981039346656037#64 0 (by omega)
  rw [List.drop_zero] at this
  rw [← this]; rfl
theorem parted (l : List UInt8) (n : Nat) (h : n < l.length) (c : UInt8) (H : BitVec 64) :
    (l.foldl fB H = (l.take n ++ [c] ++ l.drop (n + 1)).foldl fB H) ↔ l = l.take n ++ [c] ++ l.drop (n + 1) := by
  have hl : l = l.take n ++ [l[n]] ++ l.drop (n + 1) := by
    rw [List.append_assoc, List.singleton_append, ← List.drop_eq_getElem_cons h, List.take_append_drop]
  constructor
  · intro e
    rw [hl] at e
    simp only [List.foldl_append, List.foldl_cons, List.foldl_nil] at e
    have e0 : ∀ a, List.take n (List.take n l ++ [a] ++ List.drop (n + 1) l) = List.take n l := by
      intro a; rw [List.append_assoc]; exact List.take_left' (by rw [List.length_take]; omega)
    have e1 : ∀ a, List.drop (n + 1) (List.take n l ++ [a] ++ List.drop (n + 1) l) = List.drop (n + 1) l := by
      intro a; exact List.drop_left' (by rw [List.length_append, List.length_take, List.length_singleton]; omega)
    rw [e0, e1] at e
    have := fB_inj_b _ _ _ (foldl_inj _ _ _ e)
    rw [← this]; exact hl
  · intro e; rw [← e]

theorem tells (s : ByteArray) (n : Nat) (c : Int) (hn : n < s.size) (hs : s.size ≤ 2000) (hc : 0 ≤ c ∧ c ≤ 255) :
    ∃ k r1 r2, hash_Sum.f k s = some r1 ∧ hash_Sum.f k (s.extract 0 n ++ strOfNums [c] ++ s.extract (n + 1) s.size) = some r2 ∧ turncocklaw20_awake.f k = some true ∧
      ((r1 == r2) == (s.toList == (s.extract 0 n ++ strOfNums [c] ++ s.extract (n + 1) s.size).toList)) = true := by
  obtain ⟨K, hK⟩ := awake_ev
  have hl : s.data.toList.length = s.size := by simp
  have hd : ((s.extract 0 n ++ strOfNums [c]) ++ s.extract (n + 1) s.size).data.toList = s.data.toList.take n ++ [UInt8.ofNat c.toNat] ++ s.data.toList.drop (n + 1) := by
    simp only [ByteArray.data_append, Array.toList_append, Lib.extract_data, strOfNums, List.map_cons, List.map_nil, List.drop_zero, Nat.sub_zero]
    rw [List.take_of_length_le (l := s.data.toList.drop (n + 1)) (by rw [List.length_drop]; omega)]
  have hsz1 : (s.extract 0 n).size = n := by rw [ByteArray.size_extract]; omega
  have hsz2 : (s.extract (n + 1) s.size).size = s.size - (n + 1) := by rw [ByteArray.size_extract]; omega
  have hsz3 : (strOfNums [c]).size = 1 := rfl
  have hsz : ((s.extract 0 n ++ strOfNums [c]) ++ s.extract (n + 1) s.size).size = s.size := by
    rw [ByteArray.size_append, ByteArray.size_append, hsz1, hsz2, hsz3]; omega
  refine ⟨K + s.size + 2, _, _, hash_fold s (by omega) _ (by omega), hash_fold _ (by rw [hsz]; omega) _ (by rw [hsz]; omega), hK _ (by omega), ?_⟩
  rw [ByteArray.toList_eq, ByteArray.toList_eq, hd]
  have key := parted s.data.toList n (by omega) (UInt8.ofNat c.toNat) 14695981039346656037#64
  generalize s.data.toList.take n ++ [UInt8.ofNat c.toNat] ++ s.data.toList.drop (n + 1) = t at key
  have e1 : ((((s.data.toList.foldl fB 14695981039346656037#64).toNat : Int)) == (((t.foldl fB 14695981039346656037#64).toNat : Int))) = (s.data.toList == t) := by
    rw [Bool.eq_iff_iff, beq_iff_eq, beq_iff_eq, ← key]
    constructor
    · intro h; exact BitVec.eq_of_toNat_eq (by omega)
    · intro h; rw [h]
  rw [e1]; simp
theorem walk (s : ByteArray) (a c : Int) (w : World) (hs : s.size ≤ 140737488351232) (ha : (Lit.int .i64 a).wf = true) (hc : (Lit.int .u8 c).wf = true) :
    Calls Try.prog 5 #[.string s, .int .i64 a, .int .u8 c] w fun e w' => e = .returned (.bool true) ∧ Below w.heap.size w w' := by
  have hc' : 0 ≤ c ∧ c ≤ 255 := by
    simpa [Lit.wf, IntKind.min, IntKind.max, IntKind.signed, IntKind.bits] using hc
  by_cases h : ((2000 : Int) < s.size) ∨ (a < 0) ∨ ((s.size : Int) ≤ a)
  · obtain ⟨K, hK⟩ := awake_ev
    exact HashOneWalk.walk_out s a c w K ⟨hK _ (Nat.le_refl _)⟩ h
  · obtain ⟨n, rfl⟩ : ∃ n : Nat, a = n := ⟨a.toNat, by omega⟩
    obtain ⟨k, r1, r2, h1, h2, h3, h4⟩ := tells s n c (by omega) (by omega) hc'
    exact HashOneWalk.walk_main s n c w k r1 r2 (by omega) (by omega) hc'.1 hc'.2 ⟨h1⟩ ⟨h2⟩ ⟨h3⟩ h4
end Go.Proofs.Ytjiaombbjmhmoaa.One
