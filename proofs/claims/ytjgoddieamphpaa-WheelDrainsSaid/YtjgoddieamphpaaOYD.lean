/- A part of the proof. -/
import Derived.Test.YtjgoddieamphpaaOYC
namespace Go.Proofs.Ytjgoddieamphpaa.Wh
open Go.RowKit Go.Sort Go.Proofs.YtjgoddieamphpaaW.PrintWords Go.Proofs.YtjgoddieamphpaaW.PrintLast Heap Go.Proofs.Ytjgoddieamphpaa.Obj Go.Proofs.Ytjgoddieamphpaa.PWheelActs
set_option maxRecDepth 100000
set_option linter.unusedVariables false
theorem lightD_l0 (l : List S53) (hN : l.length ≤ 9223372036854775807) : ∀ d i k, l.length = i + d → 2 * d + 2 ≤ k → ∃ r, turncocklaw22_light.l0 k l (i : Int) = some r ∧ (r = true → l.length ≤ 200 ∧ ∀ q, i ≤ q → q < l.length → (l.getD q z53).f1.size ≤ 100)
  | 0, i, k, hd, hk => by
    obtain ⟨k, rfl⟩ : ∃ m, k = m + 2 := ⟨k - 2, by omega⟩
    simp only [turncocklaw22_light.l0, turncocklaw22_light.j1]
    rw [if_neg (by omega), if_neg (by decide)]
    exact ⟨_, rfl, fun h => ⟨by have := of_decide_eq_true h; omega, fun q h1 h2 => by omega⟩⟩
  | d + 1, i, k, hd, hk => by
    obtain ⟨k, rfl⟩ : ∃ m, k = m + 2 := ⟨k - 2, by omega⟩
    simp only [turncocklaw22_light.l0, turncocklaw22_light.j1]
    rw [if_pos (by omega)]
    by_cases h3 : (i : Int) < 300
    · rw [decide_eq_true h3, if_pos rfl, if_pos (by omega), if_pos (by omega)]
      have e : rd_T53 l (i : Int) = l.getD i z53 := by unfold rd_T53; rw [Int.toNat_natCast]
      rw [e]
      by_cases hs : (((l.getD i z53).f1.size : Nat) : Int) > 100
      · rw [if_pos hs]; exact ⟨_, rfl, fun h => by cases h⟩
      · rw [if_neg hs, show wrap64 ((i : Int) + 1) = ((i + 1 : Nat) : Int) from by unfold wrap64; omega]
        obtain ⟨r, hr, h⟩ := lightD_l0 l hN d (i + 1) k (by omega) (by omega)
        refine ⟨r, hr, fun ht => ⟨(h ht).1, fun q h1 h2 => ?_⟩⟩
        by_cases hq : q = i
        · subst hq; omega
        · exact (h ht).2 q (by omega) h2
    · rw [decide_eq_false h3, if_neg (by decide)]
      exact ⟨_, rfl, fun h => by have := of_decide_eq_true h; omega⟩
theorem lightD_f (l : List S53) (hN : l.length ≤ 9223372036854775807) : ∃ r, turncocklaw22_light.f (2 * l.length + 2) l = some r ∧ (r = true → l.length ≤ 200 ∧ ∀ q, q < l.length → (l.getD q z53).f1.size ≤ 100) := by
  obtain ⟨r, hr, h⟩ := lightD_l0 l hN l.length 0 (2 * l.length + 2) (by omega) (by omega)
  exact ⟨r, hr, fun ht => ⟨(h ht).1, fun q hq => (h ht).2 q (by omega) hq⟩⟩
theorem wheelDrains_calls (A : Option Addr) (c : Nat) (l : List S53) (now step : Int) (w : World) (hr : Kd.C k53 w A l.length l) (hc : l.length ≤ c) (hm : l.length ≤ maxLen) :
    Calls Try.prog 6 #[.slice A l.length c, .int .i64 now, .int .i64 step] w fun e w' => e = .returned (.bool true) ∧ Below w.heap.size w w' := by
  have fin : ∀ {e : Ending} {w' : World}, (e = .returned (.bool true) ∧ Frm (fun _ => False) w w') → (e = .returned (.bool true) ∧ Below w.heap.size w w') := fun h => ⟨h.1, h.2.to_below⟩
  have hN : l.length ≤ 9223372036854775807 := by unfold maxLen at hm; omega
  obtain ⟨r, h1, h2⟩ := lightD_f l hN
  by_cases h : r = false ∨ step < 1
  · exact (wd_out A c l now step w hr hc r h1 h).mono fun e w' h => fin h
  · obtain rfl : r = true := by cases r; exact absurd (.inl rfl) h; rfl
    exact (wd_walk A c l now step w hr hc h1 (h2 rfl).1 (h2 rfl).2 (by omega)).mono fun e w' h => fin h
end Go.Proofs.Ytjgoddieamphpaa.Wh
