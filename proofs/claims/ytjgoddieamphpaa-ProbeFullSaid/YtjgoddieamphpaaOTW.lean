/- A part of the proof. -/
import Derived.Test.YtjgoddieamphpaaOTV
namespace Go.Proofs.Ytjgoddieamphpaa.Obj
open Go.RowKit Go.Proofs.YtjgoddieamphpaaW.PrintWords Go.Proofs.YtjgoddieamphpaaW.PrintLast Probe Go.Proofs.Ytjgoddieamphpaa.PProbeActs
set_option maxRecDepth 100000
set_option linter.unusedVariables false
theorem pf_out (n : Int) (A1 : Option Addr) (c1 : Nat) (k1 : Nat) (dr : Int) (w : World) (h : n < 1 ∨ 200 < n ∨ 300 < k1) :
    Calls Try.prog 4 #[.int .i64 n, .slice A1 k1 c1, .int .i64 dr] w fun e w' => e = .returned (.bool true) ∧ Frm (fun _ => False) w w' := by
  by_cases a1 : n < 1
  · have d1 : decide (n < 1) = true := decide_eq_true a1
    clear h a1
    go_enter Try.func4, Try.ntmps4
    go_wp2_with fail
    (with_reducible refine (awake_any _).mono ?_); rintro e w3 ⟨rfl, hf3⟩
    have HF3 := Aside0.mk hf3
    clear hf3
    go_wp2
    go_ret
    exact ⟨rfl, HF3.out⟩
  have d1 : decide (n < 1) = false := decide_eq_false a1
  by_cases a2 : 200 < n
  · have d2 : decide (200 < n) = true := decide_eq_true a2
    clear h a1 a2
    go_enter Try.func4, Try.ntmps4
    go_wp2_with fail
    (with_reducible refine (awake_any _).mono ?_); rintro e w3 ⟨rfl, hf3⟩
    have HF3 := Aside0.mk hf3
    clear hf3
    go_wp2
    go_ret
    exact ⟨rfl, HF3.out⟩
  have d2 : decide (200 < n) = false := decide_eq_false a2
  have d3 : decide (300 < k1) = true := decide_eq_true (by omega)
  have d4 : decide ((300 : Int) < (k1 : Int)) = true := decide_eq_true (by omega)
  clear h a1 a2
  go_enter Try.func4, Try.ntmps4
  go_wp2_with fail
  (with_reducible refine (awake_any _).mono ?_); rintro e w3 ⟨rfl, hf3⟩
  have HF3 := Aside0.mk hf3
  clear hf3
  go_wp2
  go_ret
  exact ⟨rfl, HF3.out⟩
theorem probeFull_calls (n : Int) (A1 : Option Addr) (c1 : Nat) (l1 : List ByteArray) (dr : Int) (w : World) (hr1 : Kd.C Kd.string w A1 l1.length l1) (hc1 : l1.length ≤ c1) :
    Calls Try.prog 4 #[.int .i64 n, .slice A1 l1.length c1, .int .i64 dr] w fun e w' => e = .returned (.bool true) ∧ Below w.heap.size w w' := by
  have fin : ∀ {e : Ending} {w' : World}, (e = .returned (.bool true) ∧ Frm (fun _ => False) w w') → (e = .returned (.bool true) ∧ Below w.heap.size w w') := fun h => ⟨h.1, h.2.to_below⟩
  by_cases h : n < 1 ∨ 200 < n ∨ 300 < l1.length
  · exact (pf_out n A1 c1 l1.length dr w h).mono fun e w' h => fin h
  · obtain ⟨m, rfl⟩ : ∃ m : Nat, n = m := ⟨n.toNat, by omega⟩
    exact (pf_walk m A1 c1 l1 dr w hr1 hc1 (by omega) (by omega) (by omega)).mono fun e w' h => fin h
end Go.Proofs.Ytjgoddieamphpaa.Obj
