/- Maps of texts to numbers, and what counts in them: a part of the proof. -/
import Derived.Test.YtehlhaddbfjllaaOSC
import Derived.Test.YtehlhaddbfjllaaOSD
import Derived.Test.YtehlhaddbfjllaaDec
namespace Go.Proofs.Ytehlhaddbfjllaa.Mp
open Go.RowKit Go.Proofs.YtehlhaddbfjllaaW.PrintWords Go.Proofs.YtehlhaddbfjllaaW.PrintLast Go.Proofs.YtehlhaddbfjllaaW.PrintMore Go.Proofs.Ytehlhaddbfjllaa.PStatActs Go.Proofs.Ytehlhaddbfjllaa
set_option maxRecDepth 100000
set_option linter.unusedVariables false
set_option linter.unusedSimpArgs false
/-! Digits, and what begins so. -/
theorem numhold_f (a : Int) : num_Hold.f a = some (hold a) := by
  unfold num_Hold.f hold mx mn
  congr 1
  repeat' split
  all_goals omega
theorem rhold_f (a : Int) : turncockref1_Hold.f a = some (hold a) := by
  unfold turncockref1_Hold.f hold
  repeat' split
  all_goals (congr 1; omega)
def toB (z : Int) : UInt8 := UInt8.ofNat z.toNat
theorem toB_nat (n : Nat) : toB (n : Int) = UInt8.ofNat n := by unfold toB; rw [Int.toNat_natCast]
theorem digit_term (n : Nat) : (wrap64 (48 + Int.tmod (n : Int) 10)) % 256 = ((48 + n % 10 : Nat) : Int) := by
  rw [Int.tmod_eq_emod_of_nonneg (by omega)]
  unfold wrap64
  omega
theorem quo_term (n : Nat) (h : n ≤ 4611686018427387904) : wrap64 (Int.tdiv (n : Int) 10) = ((n / 10 : Nat) : Int) := by
  rw [Int.tdiv_eq_ediv_of_nonneg (by omega)]
  unfold wrap64
  omega
theorem dig_l0 (d : Nat) : ∀ (k n : Nat) (acc : List Int), n ≤ 4611686018427387904 → n < 10 ^ d → d < k → acc.length + d ≤ 1000 →
    num_Digits.l0 k (n : Int) acc = some ⟨(Dec.pre n ++ acc.map toB).toArray⟩ := by
  induction d with
  | zero =>
    intro k n acc hm hn hk ha
    obtain ⟨k, rfl⟩ : ∃ m, k = m + 1 := ⟨k - 1, by omega⟩
    obtain rfl : n = 0 := by omega
    simp only [num_Digits.l0]
    rw [if_neg (by omega)]; rfl
  | succ d ih =>
    intro k n acc hm hn hk ha
    obtain ⟨k, rfl⟩ : ∃ m, k = m + 1 := ⟨k - 1, by omega⟩
    by_cases h : n = 0
    · subst h
      simp only [num_Digits.l0]
      rw [if_neg (by omega)]; rfl
    · simp only [num_Digits.l0]
      rw [if_pos (by omega), digit_term, quo_term n hm]
      simp only [Option.bind_some]
      rw [if_pos (by simp; omega), ih k (n / 10) _ (by omega) (by rw [Nat.pow_succ] at hn; omega) (by omega) (by simp; omega), Dec.pre_step n h]
      simp only [List.map_append, List.map_cons, List.map_nil, toB_nat, List.append_assoc]
theorem digits_f (a : Int) (k : Nat) (hk : 20 < k) : num_Digits.f k a = some ⟨(Dec.dec (hold a).toNat).toArray⟩ := by
  have ha := hold_rng a
  unfold num_Digits.f
  rw [numhold_f]
  simp only [Option.bind_some]
  obtain ⟨n, hn⟩ : ∃ n : Nat, hold a = n := ⟨(hold a).toNat, by omega⟩
  rw [hn] at ha ⊢
  rw [digit_term, quo_term n (by omega), dig_l0 19 k (n / 10) _ (by omega) (by omega) (by omega) (by simp)]
  rw [Int.toNat_natCast, Dec.dec_pre n]
  simp only [List.map_cons, List.map_nil, toB_nat]

theorem rdig_l0 (d : Nat) : ∀ (k n : Nat) (acc : List UInt8), n ≤ 4611686018427387904 → n < 10 ^ d → d < k → acc.length + d ≤ 1000 →
    turncockref1_Digits.l0 k (n : Int) ⟨acc.toArray⟩ = some ⟨(Dec.pre n ++ acc).toArray⟩ := by
  induction d with
  | zero =>
    intro k n acc hm hn hk ha
    obtain ⟨k, rfl⟩ : ∃ m, k = m + 1 := ⟨k - 1, by omega⟩
    obtain rfl : n = 0 := by omega
    simp only [turncockref1_Digits.l0]
    rw [if_neg (by omega)]; rfl
  | succ d ih =>
    intro k n acc hm hn hk ha
    obtain ⟨k, rfl⟩ : ∃ m, k = m + 1 := ⟨k - 1, by omega⟩
    by_cases h : n = 0
    · subst h
      simp only [turncockref1_Digits.l0]
      rw [if_neg (by omega)]; rfl
    · simp only [turncockref1_Digits.l0]
      rw [if_pos (by omega), digit_term, quo_term n hm]
      simp only [Option.bind_some]
      have e : strOfNums [((48 + n % 10 : Nat) : Int)] ++ (⟨acc.toArray⟩ : ByteArray) = ⟨(UInt8.ofNat (48 + n % 10) :: acc).toArray⟩ := by
        have e1 : strOfNums [((48 + n % 10 : Nat) : Int)] = ⟨[UInt8.ofNat (48 + n % 10)].toArray⟩ := by
          show (⟨[toB ((48 + n % 10 : Nat) : Int)].toArray⟩ : ByteArray) = _
          rw [toB_nat]
        rw [e1]
        generalize UInt8.ofNat (48 + n % 10) = c
        apply ByteArray.ext
        simp [ByteArray.data_append]
      have hs1 : (strOfNums [((48 + n % 10 : Nat) : Int)]).size = 1 := rfl
      have hs2 : (⟨acc.toArray⟩ : ByteArray).size = acc.length := by show acc.toArray.size = _; simp
      rw [if_pos (by rw [hs1, hs2]; omega), e, ih k (n / 10) _ (by omega) (by rw [Nat.pow_succ] at hn; omega) (by omega) (by simp; omega), Dec.pre_step n h, List.append_assoc]
      rfl
theorem rdigits_f (a : Int) (k : Nat) (hk : 20 < k) : turncockref1_Digits.f k a = some ⟨(Dec.dec (hold a).toNat).toArray⟩ := by
  have ha := hold_rng a
  unfold turncockref1_Digits.f
  rw [rhold_f]
  simp only [Option.bind_some]
  obtain ⟨n, hn⟩ : ∃ n : Nat, hold a = n := ⟨(hold a).toNat, by omega⟩
  rw [hn] at ha ⊢
  rw [Int.toNat_natCast]
  by_cases h : n = 0
  · subst h; rw [if_pos (show ((0 : Nat) : Int) = 0 from rfl), Dec.dec_small 0 (by omega)]; rfl
  · rw [if_neg (by omega)]
    have := rdig_l0 19 k n [] (by omega) (by omega) (by omega) (by simp)
    rw [this, List.append_nil]
    unfold Dec.pre; rw [if_neg h]

def digB (a : Int) : ByteArray := ⟨(Dec.dec (hold a).toNat).toArray⟩
theorem digB_len (a : Int) : (digB a).size ≤ 25 := by
  have h := hold_rng a
  have := Dec.dec_len 19 (hold a).toNat (by omega)
  show (Dec.dec (hold a).toNat).toArray.size ≤ 25
  simp
  omega
theorem dig_any (a : Int) (w : World) : Calls Try.prog 51 #[.int .i64 a] w fun e w' => e = .returned (.string (digB a)) ∧ Frm (fun _ => False) w w' := (num_Digits.calls 21 a (digB a) w (digits_f a 21 (by omega))).mono fun e w' ⟨x, y⟩ => ⟨x, Frm.of_below y⟩
theorem rdig_any (a : Int) (w : World) : Calls Try.prog 53 #[.int .i64 a] w fun e w' => e = .returned (.string (digB a)) ∧ Frm (fun _ => False) w w' := (turncockref1_Digits.calls 21 a (digB a) w (rdigits_f a 21 (by omega))).mono fun e w' ⟨x, y⟩ => ⟨x, Frm.of_below y⟩
/-- Does a text begin with another? -/
def bgn (s p : ByteArray) : Bool := if p.size ≤ s.size then ((s.extract 0 p.size).toList == p.toList) else false
theorem bgn_f (s p : ByteArray) : (if (s.size : Int) ≥ (p.size : Int) then (if 0 ≤ (p.size : Int) then (if (p.size : Int) ≤ (s.size : Int) then (some ((s.extract 0 ((p.size : Int) : Int).toNat).toList == p.toList)) else (none)) else (none)) else (some false)) = some (bgn s p) := by
  unfold bgn
  by_cases h : p.size ≤ s.size
  · rw [if_pos (by omega), if_pos (by omega), if_pos (by omega), if_pos h, Int.toNat_natCast]
  · rw [if_neg (by omega), if_neg h]
theorem hp_any (s p : ByteArray) (w : World) : Calls Try.prog 48 #[.string s, .string p] w fun e w' => e = .returned (.bool (bgn s p)) ∧ ∃ n, w' = w.drewN n :=
  (strings_HasPrefix.calls s p _ w (by unfold strings_HasPrefix.f stringslite_HasPrefix.f; rw [bgn_f]; rfl)).mono fun e w' ⟨a, ⟨n, hn⟩⟩ => ⟨a, n, hn⟩
theorem bg_any (s p : ByteArray) (w : World) : Calls Try.prog 49 #[.string s, .string p] w fun e w' => e = .returned (.bool (bgn s p)) ∧ ∃ n, w' = w.drewN n :=
  (turncockref26_begins.calls s p _ w (by unfold turncockref26_begins.f; exact bgn_f s p)).mono fun e w' ⟨a, ⟨n, hn⟩⟩ => ⟨a, n, hn⟩
/-! Rows in memory. -/
theorem rowT {w w1 : World} {base : Nat} {v : Value} {o : List ByteArray} {F : Nat → Prop} (h : Kd.R Kd.string 9 w base (fun _ => True) v o) (k : Frm F w w1) (hF : ∀ b cs t, F b → w.heap[b]? = some (.cells cs t (0, 0)) → t ≠ 9) : Kd.R Kd.string 9 w1 base (fun _ => True) v o := by
  refine Kd.R_mono (Kd.R_step (Kd.R_bound h) ?_) (fun _ _ => trivial)
  rintro b ⟨_, _, _, q, hq, cells, hc⟩ hlt
  refine k.block b hlt fun hf => ?_
  have : q = 9 := by simpa [Kd.string, Kd.scalar] using hq
  subst this
  exact hF b _ _ hf hc rfl
theorem rowA {w w1 : World} {base : Nat} {v : Value} {o : List S79} {F : Nat → Prop} (h : Kd.R k79 79 w base (fun _ => True) v o) (k : Frm F w w1) (hF : ∀ b cs t, F b → w.heap[b]? = some (.cells cs t (0, 0)) → t ≠ 79) : Kd.R k79 79 w1 base (fun _ => True) v o := by
  refine Kd.R_mono (Kd.R_step (Kd.R_bound h) ?_) (fun _ _ => trivial)
  rintro b ⟨_, _, _, q, hq, cells, hc⟩ hlt
  refine k.block b hlt fun hf => ?_
  have : q = 79 := by simpa [k79, Kd.iso, Kd.pair, Kd.string, Kd.int, Kd.scalar] using hq
  subst this
  exact hF b _ _ hf hc rfl
theorem strsC {w : World} {base : Nat} {A : Option Addr} {n c : Nat} {o : List ByteArray} (h : Kd.R Kd.string 9 w base (fun _ => True) (.slice A n c) o) (i : Nat) (hi : i < o.length) : ∃ ad, A = some ad ∧ w.cell? (ad.add i) = some (.string (o[i])) := by
  obtain ⟨ad, cs, e, _, hK, hc0⟩ := Kd.C_get (Kd.R_reads' h).2.2 (⟨#[]⟩ : ByteArray) (i : Int) (by omega) (by omega)
  have hK' : cs = [.string (o.getD (i : Int).toNat ⟨#[]⟩)] := hK
  subst hK'
  refine ⟨ad, e, ?_⟩
  have := hc0 0 _ rfl
  rw [Int.toNat_natCast] at this
  have e1 : i * Kd.string.sz + 0 = i := by show i * 1 + 0 = i; omega
  rw [e1, List.getD_eq_getElem?_getD, List.getElem?_eq_getElem hi] at this
  exact this
theorem info79 : (Try.prog.info? 79).map (fun i => (i.zero, i.size, i.bytes)) = some (some (.agg #[(.string ⟨#[]⟩), (.int .i64 0)]), 2, 24) := by kernel_rfl
/-- A row of names, and what is made of it. -/
structure AK (w0 w : World) (vk : Value) (ks : List ByteArray) (vo : Value) (out : List S79) : Prop where
  r : Kd.R Kd.string 9 w w0.heap.size (fun _ => True) vk ks
  o : Kd.R k79 79 w w0.heap.size (fun _ => True) vo out
  f : Below w0.heap.size w0 w
section
variable {w0 w w1 : World} {vk vo v' : Value} {ks : List ByteArray} {out out' : List S79}
theorem AK.app (h : AK w0 w vk ks vo out) (g : w.grownBy w1 vo.ownBlock) (r' : Kd.R k79 79 w1 w0.heap.size (fun _ => True) v' out') (hb1 : Below w0.heap.size w0 w1) : AK w0 w1 vk ks v' out' := by
  have fr : Frm (fun j => some j = vo.ownBlock) w w1 := ⟨g.os, g.tape, g.output, g.size, fun j hj hn => g.block j hj hn⟩
  refine ⟨rowT h.r fr ?_, r', hb1⟩
  intro b cs t hb hc
  obtain ⟨_, _, _, q, hq, cells, hc2⟩ := (Kd.R_bound h.o).1 b hb.symm
  have : q = 79 := by simpa [k79, Kd.iso, Kd.pair, Kd.string, Kd.int, Kd.scalar] using hq
  subst this
  rw [hc] at hc2
  injection hc2 with hc2
  injection hc2 with _ h2 _
  subst h2
  decide
theorem AK.drewN (h : AK w0 w vk ks vo out) (n : Nat) : AK w0 (w.drewN n) vk ks vo out := ⟨Kd.R_move h.r (fun _ _ => rfl), Kd.R_move h.o (fun _ _ => rfl), pw_below_drewN h.f n⟩
end
/-- The names that begin so, in their order, with their numbers. -/
def outK (K : List KV) (p : ByteArray) (i : Nat) : List S79 := (((sortK K).take i).filter fun k => bgn k p).map fun k => ⟨k, getK K k⟩
def listK (K : List KV) (p : ByteArray) : List S79 := ((sortK K).filter fun k => bgn k p).map fun k => ⟨k, getK K k⟩
theorem outK_succ (K : List KV) (p : ByteArray) (i : Nat) (hi : i < (sortK K).length) : outK K p (i + 1) = outK K p i ++ if bgn (sortK K)[i] p = true then [⟨(sortK K)[i], getK K (sortK K)[i]⟩] else [] := by
  unfold outK
  rw [List.take_add_one, List.getElem?_eq_getElem hi, List.filter_append, List.map_append]
  congr 1
  show List.map _ (List.filter _ [(sortK K)[i]]) = _
  rw [List.filter_cons]
  split <;> rfl
theorem outK_len (K : List KV) (p : ByteArray) (i : Nat) : (outK K p i).length ≤ i := by
  unfold outK
  rw [List.length_map]
  exact Nat.le_trans (List.length_filter_le _ _) (List.length_take_le _ _)
theorem outK_all (K : List KV) (p : ByteArray) : outK K p (sortK K).length = listK K p := by unfold outK listK; rw [List.take_length]
theorem sortK_mem {K : List KV} {k : ByteArray} (h : k ∈ sortK K) : ∃ c ∈ K, c.1 = k := by
  unfold sortK keysK at h
  obtain ⟨b, hb, rfl⟩ := List.mem_map.1 h
  obtain ⟨c, hc, rfl⟩ := List.mem_map.1 ((List.mergeSort_perm _ _).mem_iff.1 hb)
  exact ⟨c, hc, by unfold bz; rfl⟩
set_option maxHeartbeats 2000000 in
theorem SI.list {w0 w : World} {p mb : Nat} {K : List KV} (h : SI w0 w p mb K) (q : ByteArray) : Calls Try.prog 29 #[.pointer (some ⟨p, 0, none⟩), .string q] w fun e w' => ∃ (A : Option Addr) (c : Nat), e = .returned (.slice A (listK K q).length c) ∧ Kd.R k79 79 w' w.heap.size (fun _ => True) (.slice A (listK K q).length c) (listK K q) ∧ Frm (fun _ => False) w w' := by
  have c0 := h.c0
  have H := Aside0.mk h
  have hll : (sortK K).length ≤ 100000 := by rw [sortK_len]; exact h.few
  have HKL := Lib.hid (sortK_len K)
  have HSM := Lib.hid h.sm
  have HSO := Aside0.mk (sorted_any h.m (by have := h.few; omega))
  clear h
  go_enter Try.func29, Try.ntmps29
  go_wp2_with fail
  (with_reducible refine (keys_any mb _).mono ?_); rintro e w2 ⟨rfl, rfl⟩
  go_wp2_with fail
  (with_reducible refine HSO.out.mono ?_); rintro e w3 ⟨A, c, rfl, hr, hf⟩
  rw [← HKL.out] at hr ⊢
  have HK : Aside0 (AK w w3 (.slice A (sortK K).length c) (sortK K) (.slice none 0 0) []) := ⟨⟨Kd.R_lower hr (by omega), Kd.R_nil _ _ _ _ _, hf.to_below⟩⟩
  clear hr hf HSO c0
  go_wp2
  go_loopw [5, 17] (fun v5 v17 wr => ∃ (i : Nat) (A2 : Option Addr) (c2 : Nat), v17 = .int .i64 (i : Nat) ∧ v5 = .slice A2 (outK K q i).length c2 ∧ i ≤ (sortK K).length ∧ Aside0 (AK w wr (.slice A (sortK K).length c) (sortK K) (.slice A2 (outK K q i).length c2) (outK K q i))) (fun _ v17 _ => (sortK K).length - (intOf v17).toNat)
  case atStart => exact ⟨0, none, 0, rfl, rfl, Nat.zero_le _, HK⟩
  case round =>
    clear HK
    obtain ⟨i, A2, c2, rfl, rfl, hi, HK⟩ := hrel
    have HC := Aside0.mk (H.out.movedN (Frm.of_below (F := fun _ => False) HK.out.f))
    have hol := outK_len K q i
    by_cases hlt : i < (sortK K).length
    · obtain ⟨ad, rfl, q0⟩ := strsC HK.out.r i hlt
      have hks : ((sortK K)[i]).size ≤ 1000 := by
        obtain ⟨c, hc, e⟩ := sortK_mem (List.getElem_mem hlt)
        rw [← e]
        exact HSM.out _ hc
      have hos := outK_succ K q i hlt
      have HKS := Lib.hid hks
      have HOS := Lib.hid hos
      generalize (sortK K)[i] = kx at *
      clear hks hos
      cases hb : bgn kx q with
      | false =>
        have HHP : Aside0 (∀ w, Calls Try.prog 48 #[.string kx, .string q] w fun e w' => e = .returned (.bool false) ∧ ∃ n, w' = w.drewN n) := ⟨fun w => by rw [← hb]; exact hp_any kx q w⟩
        rw [hb] at HOS
        have HOS := Lib.hid (show outK K q (i + 1) = outK K q i by rw [HOS.out]; simp)
        clear hb
        go_wp2_with fail
        (with_reducible refine (HHP.out _).mono ?_); rintro e w4 ⟨rfl, n, rfl⟩
        go_wp2
        exact ⟨⟨i + 1, A2, c2, by go_num, by rw [HOS.out], by omega, by rw [HOS.out]; exact ⟨HK.out.drewN n⟩⟩, by simp [intOf]; omega⟩
      | true =>
        have HHP : Aside0 (∀ w, Calls Try.prog 48 #[.string kx, .string q] w fun e w' => e = .returned (.bool true) ∧ ∃ n, w' = w.drewN n) := ⟨fun w => by rw [← hb]; exact hp_any kx q w⟩
        rw [hb] at HOS
        obtain ⟨pv, hpv⟩ : ∃ pv, pv = getK K kx := ⟨_, rfl⟩
        have HLO : Aside0 (∀ n, (Instr.lookup 65 (.map (some mb)) (.string kx) false).run Try.prog (wr.drewN n) = .ok (.int .i64 pv) (wr.drewN n)) := ⟨fun n => by rw [hpv]; exact (HC.out.drewN n).m.look kx (by have := HKS.out; unfold maxLen; omega) false⟩
        rw [← hpv] at HOS
        have HOS := Lib.hid (show outK K q (i + 1) = outK K q i ++ [⟨kx, pv⟩] by rw [HOS.out, if_pos rfl])
        clear hb hpv
        go_wp2_with fail
        (with_reducible refine (HHP.out _).mono ?_); rintro e w4 ⟨rfl, n, rfl⟩
        have hlo := HLO.out n
        have c0 := (HC.out.drewN n).c0
        have HK2 := Aside0.mk (HK.out.drewN n)
        generalize wr.drewN n = wy at *
        clear HC HK HLO
        go_wp2_with (first | (at_builtin; refine Kd.R_append k79 _ rfl (.tmp 24) (.tmp 33) 46 79 (.agg #[(.string ⟨#[]⟩), (.int .i64 0)]) 24 rfl Try.underlying46 info79 rfl (by decide) (by omega) (.slice A2 (outK K q i).length c2) (outK K q i) ⟨kx, pv⟩ [.string kx, .int .i64 pv] (fun _ => True) (fun _ => False) rfl rfl (k79_mkM _ _ _ _) (fun _ h => h.elim) (fun _ _ => trivial) HK2.out.o HK2.out.f HK2.out.f.size (by omega) ?_; intro v4 w4 hv4 hb4 hg4 hx4; have HK3 := Aside0.mk (HK2.out.app hg4 hv4 hb4); obtain ⟨A4, c4, e4⟩ := Kd.R_slice hv4; subst e4; clear hv4 hb4 hg4 hx4))
        exact ⟨⟨i + 1, A4, c4, by go_num, by rw [HOS.out, List.length_append]; rfl, by omega, by rw [HOS.out]; exact HK3⟩, by simp [intOf]; omega⟩
    · obtain rfl : i = (sortK K).length := by omega
      have z1 : decide (((sortK K).length : Int) < ((sortK K).length : Int)) = false := decide_eq_false (by omega)
      have z2 : decide ((sortK K).length < (sortK K).length) = false := decide_eq_false (by omega)
      have HE := Lib.hid (outK_all K q)
      rw [HE.out] at HK ⊢
      go_wp2
      go_ret
      exact ⟨A2, c2, rfl, HK.out.o, Frm.of_below HK.out.f⟩
theorem list_nil (q : ByteArray) (w : World) : Calls Try.prog 29 #[.pointer none, .string q] w fun e w' => e = .returned (.slice none 0 0) ∧ w = w' := by
  go_enter Try.func29, Try.ntmps29
  go_wp2
  go_ret
  exact ⟨rfl, rfl⟩
end Go.Proofs.Ytehlhaddbfjllaa.Mp
