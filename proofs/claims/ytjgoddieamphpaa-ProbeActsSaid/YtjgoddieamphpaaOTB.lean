/- hash.Sum and Slot, and the document's. -/
import Derived.Test.YtjgoddieamphpaaOTObj
namespace Go.Proofs.Ytjgoddieamphpaa.Obj
open Go.RowKit Go.Proofs.YtjgoddieamphpaaW.PrintWords Go.Proofs.YtjgoddieamphpaaW.PrintLast
set_option maxRecDepth 100000
/-- One byte upon a text's sum. -/
def hstep (h : Int) (c : UInt8) : Int := IntKind.u64.wrap (Go.bits .xor .u64 h (IntKind.u64.wrap (c.toNat : Int)) * 1099511628211)
def hsum (l : List UInt8) : Int := l.foldl hstep 14695981039346656037
theorem take_snoc (s : ByteArray) (k : Nat) (h : k < s.size) : s.data.toList.take (k + 1) = s.data.toList.take k ++ [s[k]] := by
  rw [List.take_succ_eq_append_getElem (by simpa using h)]; rfl
theorem hsum_snoc (s : ByteArray) (k : Nat) (h : k < s.size) : hsum (s.data.toList.take (k + 1)) = hstep (hsum (s.data.toList.take k)) s[k] := by
  rw [take_snoc s k h]; unfold hsum; rw [List.foldl_append]; rfl
theorem sum_any (s : ByteArray) (w : World) (hs : s.size ≤ 9223372036854775807) :
    Calls Try.prog 91 #[.string s] w fun e w' => e = .returned (.int .u64 (hsum s.data.toList)) ∧ w = w' := by
  go_enter Try.func91, Try.ntmps91
  go_wp2
  go_loop [3, 7] (fun n i => ∃ k : Nat, k ≤ s.size ∧ i = .int .i64 k ∧ n = .int .u64 (hsum (s.data.toList.take k))) (fun _ i => s.size - (intOf i).toNat)
  case atStart => exact ⟨0, Nat.zero_le _, rfl, rfl⟩
  case round =>
    obtain ⟨k, hk, rfl, rfl⟩ := hrel
    by_cases hlt : k < s.size
    · have HS := Lib.hid (hsum_snoc s k hlt)
      generalize hsum (s.data.toList.take k) = h0 at *
      go_wp2
      go_round
      case rel => refine ⟨k + 1, by omega, by go_num, ?_⟩; rw [HS.out, hstep]
      case measure => simp [intOf]; omega
    · go_wp2
      go_ret
      exact ⟨by rw [List.take_of_length_le (by simp; omega)]; rfl, rfl⟩
theorem rsum_any (s : ByteArray) (w : World) (hs : s.size ≤ 9223372036854775807) :
    Calls Try.prog 83 #[.string s] w fun e w' => e = .returned (.int .u64 (hsum s.data.toList)) ∧ w = w' := by
  go_enter Try.func83, Try.ntmps83
  go_wp2
  go_loop [3, 4] (fun n i => ∃ k : Nat, k ≤ s.size ∧ i = .int .i64 k ∧ n = .int .u64 (hsum (s.data.toList.take k))) (fun _ i => s.size - (intOf i).toNat)
  case atStart => exact ⟨0, Nat.zero_le _, rfl, rfl⟩
  case round =>
    obtain ⟨k, hk, rfl, rfl⟩ := hrel
    by_cases hlt : k < s.size
    · have HS := Lib.hid (hsum_snoc s k hlt)
      generalize hsum (s.data.toList.take k) = h0 at *
      go_wp2
      go_round
      case rel => refine ⟨k + 1, by omega, by go_num, ?_⟩; rw [HS.out, hstep]
      case measure => simp [intOf]; omega
    · go_wp2
      go_ret
      exact ⟨by rw [List.take_of_length_le (by simp; omega)]; rfl, rfl⟩

/-- A text's place among n. -/
def slotN (s : ByteArray) (n : Nat) : Nat := (hsum s.data.toList).toNat % n
theorem hstep_rng (h : Int) (c : UInt8) : 0 ≤ hstep h c ∧ hstep h c < 18446744073709551616 := by
  unfold hstep; rw [IntKind.wrap_u64]; omega
theorem hsum_rng (l : List UInt8) : 0 ≤ hsum l ∧ hsum l < 18446744073709551616 := by
  suffices ∀ (l : List UInt8) (h : Int), 0 ≤ h → h < 18446744073709551616 → 0 ≤ l.foldl hstep h ∧ l.foldl hstep h < 18446744073709551616 from this l _ (by decide) (by decide)
  intro l
  induction l with
  | nil => intro h a b; exact ⟨a, b⟩
  | cons c t ih => intro h a b; exact ih _ (hstep_rng h c).1 (hstep_rng h c).2
theorem slotN_lt (s : ByteArray) (n : Nat) (hn : 0 < n) : slotN s n < n := Nat.mod_lt _ hn
theorem slot_val (h : Int) (n : Nat) (h0 : 0 ≤ h) (h1 : h < 18446744073709551616) (hn : 0 < n) (hN : n ≤ 10000) :
    wrap64 (Int.tmod h (IntKind.u64.wrap (n : Int))) = ((h.toNat % n : Nat) : Int) := by
  have hu : IntKind.u64.wrap (n : Int) = n := by rw [IntKind.wrap_u64]; omega
  rw [hu, Int.tmod_eq_emod_of_nonneg h0]
  have m0 := Int.emod_nonneg h (show (n : Int) ≠ 0 by omega)
  have m1 := Int.emod_lt_of_pos h (show (0 : Int) < n by omega)
  have : wrap64 (h % n) = h % n := by unfold wrap64; omega
  rw [this]
  obtain ⟨m, rfl⟩ : ∃ m : Nat, h = m := ⟨h.toNat, by omega⟩
  simp
theorem slot_any (s : ByteArray) (n : Nat) (w : World) (hs : s.size ≤ 9223372036854775807) (hn : 0 < n) (hN : n ≤ 10000) :
    Calls Try.prog 86 #[.string s, .int .i64 (n : Int)] w fun e w' => e = .returned (.int .i64 (slotN s n : Nat)) ∧ w = w' := by
  have c1 : decide ((n : Int) < 1) = false := decide_eq_false (by omega)
  have hu : IntKind.u64.wrap (n : Int) = n := by rw [IntKind.wrap_u64]; omega
  have hz : ((n : Int) == 0) = false := by simp; omega
  have HV := Lib.hid (slot_val _ n (hsum_rng s.data.toList).1 (hsum_rng s.data.toList).2 hn hN)
  go_enter Try.func86, Try.ntmps86
  go_wp2_with fail
  (with_reducible refine (sum_any s _ hs).mono ?_); rintro e w' ⟨rfl, rfl⟩
  go_wp2
  go_ret
  exact ⟨by unfold slotN; rw [← HV.out]; first | rfl | (rw [hu]; rfl), rfl⟩
theorem rslot_any (s : ByteArray) (n : Nat) (w : World) (hs : s.size ≤ 9223372036854775807) (hn : 0 < n) (hN : n ≤ 10000) :
    Calls Try.prog 63 #[.string s, .int .i64 (n : Int)] w fun e w' => e = .returned (.int .i64 (slotN s n : Nat)) ∧ w = w' := by
  have c1 : decide ((n : Int) < 1) = false := decide_eq_false (by omega)
  have hu : IntKind.u64.wrap (n : Int) = n := by rw [IntKind.wrap_u64]; omega
  have hz : ((n : Int) == 0) = false := by simp; omega
  have HV := Lib.hid (slot_val _ n (hsum_rng s.data.toList).1 (hsum_rng s.data.toList).2 hn hN)
  go_enter Try.func63, Try.ntmps63
  go_wp2_with fail
  (with_reducible refine (rsum_any s _ hs).mono ?_); rintro e w' ⟨rfl, rfl⟩
  go_wp2
  go_ret
  exact ⟨by unfold slotN; rw [← HV.out]; first | rfl | (rw [hu]; rfl), rfl⟩
end Go.Proofs.Ytjgoddieamphpaa.Obj
