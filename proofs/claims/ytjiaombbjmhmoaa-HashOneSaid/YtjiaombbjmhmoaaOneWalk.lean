/- HashOne's walk: where the place lies in the text (of at most 2000 bytes), and where it does not. -/
import Derived.Test.YtjiaombbjmhmoaaPHashSumsx1
import Derived.RegionTactic
import Derived.ChangeAlike
import Derived.BigRegion
import Derived.Outline
set_option linter.unusedVariables false
namespace Go.Proofs.Ytjiaombbjmhmoaa.HashOneWalk
open Go.RowKit Go.Proofs.Ytjiaombbjmhmoaa.PHashSums Go.Proofs.YtjiaombbjmhmoaaW.PrintWords Go.Proofs.YtjiaombbjmhmoaaW.PrintLast Go.Proofs.YtjiaombbjmhmoaaW.PrintMore
set_option maxRecDepth 100000
set_option maxHeartbeats 1000000 in
theorem walk_main (s : ByteArray) (n : Nat) (c : Int) (w : World) (k : Nat) (r1 r2 : Int) (hn : n < s.size) (hs : s.size ≤ 2000) (hc0 : 0 ≤ c) (hc1 : c ≤ 255)
    (h1 : Aside0 (hash_Sum.f k s = some r1)) (h2 : Aside0 (hash_Sum.f k (s.extract 0 n ++ strOfNums [c] ++ s.extract (n + 1) s.size) = some r2)) (ha : Aside0 (turncocklaw20_awake.f k = some true))
    (hq : ((r1 == r2) == (s.toList == (s.extract 0 n ++ strOfNums [c] ++ s.extract (n + 1) s.size).toList)) = true) :
    Calls Try.prog 5 #[.string s, .int .i64 (n : Int), .int .u8 c] w fun e w' => e = .returned (.bool true) ∧ Below w.heap.size w w' := by
  have c1 : decide (2000 < (s.size : Int)) = false := decide_eq_false (by omega)
  have c1' : decide (2000 < s.size) = false := decide_eq_false (by omega)
  have c2 : decide ((n : Int) < 0) = false := decide_eq_false (by omega)
  have c3 : decide ((s.size : Int) ≤ (n : Int)) = false := decide_eq_false (by omega)
  have c3' : decide (s.size ≤ n) = false := decide_eq_false (by omega)
  have hle : n ≤ s.size := by omega
  have hle1 : n + 1 ≤ s.size := by omega
  have hconv : ∀ W : World, W.cell? ⟨w.heap.size, 0, none⟩ = some (.int .u8 c) → (convert 28 9 (.slice (some ⟨w.heap.size, 0, none⟩) 1 1)).run Try.prog W = .ok (.string (strOfNums [c])) W := by
    intro W hc
    refine run_convert_bytes_arg W 28 5 Try.underlying28 Try.underlying5 w.heap.size 0 1 1 [c] rfl (fun i hi => ?_) 9 Try.underlying9
    obtain rfl : i = 0 := by omega
    exact hc
  have hsz1 : (s.extract 0 n).size = n := by rw [ByteArray.size_extract]; omega
  have hsz3 : (strOfNums [c]).size = 1 := rfl
  have hsz2 : (s.extract (n + 1) s.size).size = s.size - (n + 1) := by rw [ByteArray.size_extract]; omega
  go_enter Try.func5, Try.ntmps5
  go_wp2
  go_region
  go_wp2_with fail
  (with_reducible refine (hash_Sum.calls k s r1 _ h1.out).mono ?_); rintro e w1 ⟨rfl, ⟨nd, rfl⟩⟩
  go_wp2_with fail
  (with_reducible refine (hash_Sum.calls k (s.extract 0 n ++ strOfNums [c] ++ s.extract (n + 1) s.size) r2 _ h2.out).mono ?_); rintro e w1 ⟨rfl, ⟨nd2, rfl⟩⟩
  go_wp2_with fail
  (with_reducible refine (turncocklaw20_awake.calls k true _ ha.out).mono ?_); rintro e w1 ⟨rfl, ⟨nd3, rfl⟩⟩
  go_wp2
  go_ret
  exact ⟨rfl, by repeat (first | exact Below.refl _ _ | apply pw_below_drewN | apply below_drew1 | apply below_alloc)⟩
set_option maxHeartbeats 1000000 in
theorem walk_out (s : ByteArray) (a : Int) (c : Int) (w : World) (k : Nat) (ha : Aside0 (turncocklaw20_awake.f k = some true)) (h : ((2000 : Int) < s.size) ∨ (a < 0) ∨ ((s.size : Int) ≤ a)) :
    Calls Try.prog 5 #[.string s, .int .i64 a, .int .u8 c] w fun e w' => e = .returned (.bool true) ∧ Below w.heap.size w w' := by
  by_cases h1 : (2000 : Int) < s.size
  · have c1 : decide (2000 < (s.size : Int)) = true := decide_eq_true h1
    have c1' : decide (2000 < s.size) = true := decide_eq_true (by omega)
    clear h h1
    go_enter Try.func5, Try.ntmps5
    go_wp2_with fail
    (with_reducible refine (turncocklaw20_awake.calls k true _ ha.out).mono ?_); rintro e w1 ⟨rfl, ⟨nd3, rfl⟩⟩
    go_wp2
    go_ret
    exact ⟨rfl, by repeat (first | exact Below.refl _ _ | apply pw_below_drewN | apply below_drew1 | apply below_alloc)⟩
  · have c1 : decide (2000 < (s.size : Int)) = false := decide_eq_false h1
    have c1' : decide (2000 < s.size) = false := decide_eq_false (by omega)
    by_cases h2 : a < 0
    · have c2 : decide (a < 0) = true := decide_eq_true h2
      clear h h1 h2
      go_enter Try.func5, Try.ntmps5
      go_wp2_with fail
      (with_reducible refine (turncocklaw20_awake.calls k true _ ha.out).mono ?_); rintro e w1 ⟨rfl, ⟨nd3, rfl⟩⟩
      go_wp2
      go_ret
      exact ⟨rfl, by repeat (first | exact Below.refl _ _ | apply pw_below_drewN | apply below_drew1 | apply below_alloc)⟩
    · have c2 : decide (a < 0) = false := decide_eq_false h2
      have c3 : decide ((s.size : Int) ≤ a) = true := decide_eq_true (by omega)
      clear h h1 h2
      go_enter Try.func5, Try.ntmps5
      go_wp2_with fail
      (with_reducible refine (turncocklaw20_awake.calls k true _ ha.out).mono ?_); rintro e w1 ⟨rfl, ⟨nd3, rfl⟩⟩
      go_wp2
      go_ret
      exact ⟨rfl, by repeat (first | exact Below.refl _ _ | apply pw_below_drewN | apply below_drew1 | apply below_alloc)⟩
end Go.Proofs.Ytjiaombbjmhmoaa.HashOneWalk
