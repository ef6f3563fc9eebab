/- ProbeTexts: whatever comes in. -/
import Derived.Test.YtjgoddieamphpaaOTR
namespace Go.Proofs.Ytjgoddieamphpaa.Obj
open Go.RowKit Go.Proofs.YtjgoddieamphpaaW.PrintWords Go.Proofs.YtjgoddieamphpaaW.PrintLast Probe Go.Proofs.Ytjgoddieamphpaa.PProbeActs
set_option maxRecDepth 100000
set_option linter.unusedVariables false
theorem pt_out (n : Int) (A1 : Option Addr) (c1 : Nat) (k1 : Nat) (A2 : Option Addr) (c2 : Nat) (k2 : Nat) (w : World) (h : n < 1 ∨ 64 < n ∨ 60 < k1 ∨ k2 < k1) :
    Calls Try.prog 3 #[.int .i64 n, .slice A1 k1 c1, .slice A2 k2 c2] w fun e w' => e = .returned (.bool true) ∧ Frm (fun _ => False) w w' := by
  by_cases a1 : n < 1
  · have d1 : decide (n < 1) = true := decide_eq_true a1
    clear h a1
    go_enter Try.func3, Try.ntmps3
    go_wp2_with fail
    (with_reducible refine (awake_any _).mono ?_); rintro e w3 ⟨rfl, hf3⟩
    have HF3 := Aside0.mk hf3
    clear hf3
    go_wp2
    go_ret
    exact ⟨rfl, HF3.out⟩
  have d1 : decide (n < 1) = false := decide_eq_false a1
  by_cases a2 : 64 < n
  · have d2 : decide (64 < n) = true := decide_eq_true a2
    clear h a1 a2
    go_enter Try.func3, Try.ntmps3
    go_wp2_with fail
    (with_reducible refine (awake_any _).mono ?_); rintro e w3 ⟨rfl, hf3⟩
    have HF3 := Aside0.mk hf3
    clear hf3
    go_wp2
    go_ret
    exact ⟨rfl, HF3.out⟩
  have d2 : decide (64 < n) = false := decide_eq_false a2
  by_cases a3 : 60 < k1
  · have d3 : decide (60 < k1) = true := decide_eq_true a3
    have d4 : decide ((60 : Int) < (k1 : Int)) = true := decide_eq_true (by omega)
    clear h a1 a2 a3
    go_enter Try.func3, Try.ntmps3
    go_wp2_with fail
    (with_reducible refine (awake_any _).mono ?_); rintro e w3 ⟨rfl, hf3⟩
    have HF3 := Aside0.mk hf3
    clear hf3
    go_wp2
    go_ret
    exact ⟨rfl, HF3.out⟩
  have d3 : decide (60 < k1) = false := decide_eq_false a3
  have d4 : decide ((60 : Int) < (k1 : Int)) = false := decide_eq_false (by omega)
  have d5 : decide (k2 < k1) = true := decide_eq_true (by omega)
  have d6 : decide ((k2 : Int) < (k1 : Int)) = true := decide_eq_true (by omega)
  clear h a1 a2 a3
  go_enter Try.func3, Try.ntmps3
  go_wp2_with fail
  (with_reducible refine (awake_any _).mono ?_); rintro e w3 ⟨rfl, hf3⟩
  have HF3 := Aside0.mk hf3
  clear hf3
  go_wp2
  go_ret
  exact ⟨rfl, HF3.out⟩
theorem probeTexts_calls (n : Int) (A1 : Option Addr) (c1 : Nat) (l1 : List ByteArray) (A2 : Option Addr) (c2 : Nat) (l2 : List ByteArray) (w : World) (hr1 : Kd.C Kd.string w A1 l1.length l1) (hc1 : l1.length ≤ c1) (hr2 : Kd.C Kd.string w A2 l2.length l2) (hc2 : l2.length ≤ c2) :
    Calls Try.prog 3 #[.int .i64 n, .slice A1 l1.length c1, .slice A2 l2.length c2] w fun e w' => e = .returned (.bool true) ∧ Below w.heap.size w w' := by
  have fin : ∀ {e : Ending} {w' : World}, (e = .returned (.bool true) ∧ Frm (fun _ => False) w w') → (e = .returned (.bool true) ∧ Below w.heap.size w w') := fun h => ⟨h.1, h.2.to_below⟩
  by_cases h : n < 1 ∨ 64 < n ∨ 60 < l1.length ∨ l2.length < l1.length
  · exact (pt_out n A1 c1 l1.length A2 c2 l2.length w h).mono fun e w' h => fin h
  · obtain ⟨m, rfl⟩ : ∃ m : Nat, n = m := ⟨n.toNat, by omega⟩
    exact (pt_walk m A1 c1 l1 A2 c2 l2 w hr1 hc1 hr2 hc2 (by omega) (by omega) (by omega) (by omega)).mono fun e w' h => fin h
end Go.Proofs.Ytjgoddieamphpaa.Obj
