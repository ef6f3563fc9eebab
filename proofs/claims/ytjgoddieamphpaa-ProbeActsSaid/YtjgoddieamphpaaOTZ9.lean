/- A part of the proof. -/
import Derived.Test.YtjgoddieamphpaaOTZ8
namespace Go.Proofs.Ytjgoddieamphpaa.Obj
open Go.RowKit Go.Sort Go.Proofs.YtjgoddieamphpaaW.PrintWords Go.Proofs.YtjgoddieamphpaaW.PrintLast Probe Go.Proofs.Ytjgoddieamphpaa.PProbeActs
set_option maxRecDepth 100000
set_option linter.unusedVariables false
/-- Are acts looked at? -/
theorem lightM_l0 (l : List S76) (hN : l.length ≤ 9223372036854775807) : ∀ d i k, l.length = i + d → 2 * d + 2 ≤ k → ∃ r, turncocklaw21_light.l0 k l (i : Int) = some r ∧ (r = true → l.length ≤ 200 ∧ ∀ q, i ≤ q → q < l.length → (l.getD q z76).f1.size ≤ 100)
  | 0, i, k, hd, hk => by
    obtain ⟨k, rfl⟩ : ∃ m, k = m + 2 := ⟨k - 2, by omega⟩
    simp only [turncocklaw21_light.l0, turncocklaw21_light.j1]
    rw [if_neg (by omega), if_neg (by decide)]
    exact ⟨_, rfl, fun h => ⟨by have := of_decide_eq_true h; omega, fun q h1 h2 => by omega⟩⟩
  | d + 1, i, k, hd, hk => by
    obtain ⟨k, rfl⟩ : ∃ m, k = m + 2 := ⟨k - 2, by omega⟩
    simp only [turncocklaw21_light.l0, turncocklaw21_light.j1]
    rw [if_pos (by omega)]
    by_cases h3 : (i : Int) < 300
    · rw [decide_eq_true h3, if_pos rfl, if_pos (by omega), if_pos (by omega)]
      have e : rd_T76 l (i : Int) = l.getD i z76 := by unfold rd_T76; rw [Int.toNat_natCast]
      rw [e]
      by_cases hs : (((l.getD i z76).f1.size : Nat) : Int) > 100
      · rw [if_pos hs]; exact ⟨_, rfl, fun h => by cases h⟩
      · rw [if_neg hs, show wrap64 ((i : Int) + 1) = ((i + 1 : Nat) : Int) from by unfold wrap64; omega]
        obtain ⟨r, hr, h⟩ := lightM_l0 l hN d (i + 1) k (by omega) (by omega)
        refine ⟨r, hr, fun ht => ⟨(h ht).1, fun q h1 h2 => ?_⟩⟩
        by_cases hq : q = i
        · subst hq; omega
        · exact (h ht).2 q (by omega) h2
    · rw [decide_eq_false h3, if_neg (by decide)]
      exact ⟨_, rfl, fun h => by have := of_decide_eq_true h; omega⟩
theorem lightM_f (l : List S76) (hN : l.length ≤ 9223372036854775807) : ∃ r, turncocklaw21_light.f (2 * l.length + 2) l = some r ∧ (r = true → l.length ≤ 200 ∧ ∀ q, q < l.length → (l.getD q z76).f1.size ≤ 100) := by
  obtain ⟨r, hr, h⟩ := lightM_l0 l hN l.length 0 (2 * l.length + 2) (by omega) (by omega)
  exact ⟨r, hr, fun ht => ⟨(h ht).1, fun q hq => (h ht).2 q (by omega) hq⟩⟩
theorem paM_light (n : Int) (A : Option Addr) (c : Nat) (l : List S76) (w : World) (hr : Kd.C k76 w A l.length l) (hc : l.length ≤ c) (r : Bool) (hl : turncocklaw21_light.f (2 * l.length + 2) l = some r) (h : r = false ∨ 64 < n) :
    Calls Try.prog 10 #[.int .i64 n, .slice A l.length c] w fun e w' => e = .returned (.bool true) ∧ Frm (fun _ => False) w w' := by
  have HR := Aside0.mk hr
  have HL := Lib.hid hl
  clear hr hl
  cases r with
  | false =>
    clear h
    go_enter Try.func10, Try.ntmps10
    go_wp2_with fail
    (with_reducible refine (turncocklaw21_light.calls (2 * l.length + 2) A c l false _ HR.out hc HL.out).mono ?_); rintro e w1 ⟨rfl, q, rfl⟩
    go_wp2_with fail
    (with_reducible refine (awake_any _).mono ?_); rintro e w3 ⟨rfl, hf3⟩
    have HF3 := Aside0.mk hf3
    clear hf3
    go_wp2
    go_ret
    exact ⟨rfl, ((Frm.refl _ w).drewN q).trans HF3.out⟩
  | true =>
    have h64 : 64 < n := by rcases h with h | h; cases h; exact h
    have d1 : decide (64 < n) = true := decide_eq_true h64
    clear h h64
    go_enter Try.func10, Try.ntmps10
    go_wp2_with fail
    (with_reducible refine (turncocklaw21_light.calls (2 * l.length + 2) A c l true _ HR.out hc HL.out).mono ?_); rintro e w1 ⟨rfl, q, rfl⟩
    go_wp2_with fail
    (with_reducible refine (awake_any _).mono ?_); rintro e w3 ⟨rfl, hf3⟩
    have HF3 := Aside0.mk hf3
    clear hf3
    go_wp2
    go_ret
    exact ⟨rfl, ((Frm.refl _ w).drewN q).trans HF3.out⟩
theorem probeActs_calls (n : Int) (A : Option Addr) (c : Nat) (l : List S76) (w : World) (hr : Kd.C k76 w A l.length l) (hc : l.length ≤ c) (hm : l.length ≤ maxLen) :
    Calls Try.prog 10 #[.int .i64 n, .slice A l.length c] w fun e w' => e = .returned (.bool true) ∧ Below w.heap.size w w' := by
  have fin : ∀ {e : Ending} {w' : World}, (e = .returned (.bool true) ∧ Frm (fun _ => False) w w') → (e = .returned (.bool true) ∧ Below w.heap.size w w') := fun h => ⟨h.1, h.2.to_below⟩
  have hN : l.length ≤ 9223372036854775807 := by unfold maxLen at hm; omega
  obtain ⟨r, h1, h2⟩ := lightM_f l hN
  by_cases h : r = false ∨ 64 < n
  · exact (paM_light n A c l w hr hc r h1 h).mono fun e w' h => fin h
  · obtain rfl : r = true := by cases r; exact absurd (.inl rfl) h; rfl
    by_cases hn : n < 1
    · exact (pa_low n A c l w hr hc h1 hn).mono fun e w' h => fin h
    · obtain ⟨m, rfl⟩ : ∃ m : Nat, n = m := ⟨n.toNat, by omega⟩
      exact (pa_walk m A c l w hr hc h1 (by omega) (by omega) (h2 rfl).1 (h2 rfl).2).mono fun e w' h => fin h
end Go.Proofs.Ytjgoddieamphpaa.Obj
