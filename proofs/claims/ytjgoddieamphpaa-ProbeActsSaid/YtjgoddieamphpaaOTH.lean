/- probe.Table[int]: away, Slots, Owner. -/
import Derived.Test.YtjgoddieamphpaaOTG
import Derived.Deep.QuietTactic
import Derived.BigQuiet
namespace Go.Proofs.Ytjgoddieamphpaa.Obj
open Go.RowKit Go.Proofs.YtjgoddieamphpaaW.PrintWords Go.Proofs.YtjgoddieamphpaaW.PrintLast Probe
set_option maxRecDepth 100000
set_option linter.unusedVariables false
theorem dist_mod (N a p : Nat) (ha : a < N) (hp : p < N) : (p + N - a) % N = dist N a p := by
  unfold dist; exact mod_cyc _ _ (by omega)
theorem dist_at (N f e : Nat) (hf : f < N) (he : e < N) : dist N f (cyc N (f + e)) = e := by
  unfold dist cyc; split <;> split <;> omega
theorem cyc_next (N f e : Nat) (hf : f < N) (he : e < N) : (cyc N (f + e) + 1) % N = cyc N (f + (e + 1)) := by
  have h := cyc_lt (N := N) (x := f + e) (by omega)
  rw [mod_cyc _ _ (by omega)]
  unfold cyc; split <;> split <;> (try split) <;> omega
theorem dist_less (N i z : Nat) (hi : i < N) (hz : z < N) (hne : i ≠ z) : dist N ((i + 1) % N) z + 1 = dist N i z := by
  rw [mod_cyc _ _ (by omega)]
  unfold dist cyc; split <;> split <;> (try split) <;> omega
theorem made_flat {α : Type} (enc : α → Value) (zv : Value) (n : Nat) : madeCells #[.bool false, .string ⟨#[]⟩, zv] (n * 3) = (flat enc zv (List.replicate n none)).toArray := by
  apply Array.ext'
  apply List.ext_getElem?
  intro q
  have hl := flat_len enc zv (List.replicate n none)
  rw [List.length_replicate] at hl
  by_cases hq : q < n * 3
  · have hr : q = q / 3 * 3 + q % 3 := by omega
    have hj : q % 3 < 3 := by omega
    have hp : q / 3 < n := by omega
    have hm : (madeCells #[.bool false, .string ⟨#[]⟩, zv] (n * 3)).toList[q]? = some (#[Value.bool false, .string ⟨#[]⟩, zv][q % 3]!) := by
      unfold madeCells
      rw [Array.getElem?_toList, Array.getElem?_map, Array.getElem?_range, if_pos hq]
      rfl
    rw [hm]
    show _ = (flat enc zv (List.replicate n none))[q]?
    generalize q / 3 = m at *
    generalize q % 3 = j at *
    subst hr
    have hat : at_ (List.replicate n (none : Option (Ent α))) m = none := by
      unfold at_; rw [List.getD_eq_getElem?_getD, List.getElem?_replicate]; simp [hp]
    have := flat_get enc zv (List.replicate n none) m j (by simpa using hp) hj
    rw [hat] at this
    match j, hj with
    | 0, _ => exact this.symm
    | 1, _ => exact this.symm
    | 2, _ => exact this.symm
  · rw [List.getElem?_eq_none (by simp [madeCells]; omega), List.getElem?_eq_none (by simp; omega)]
theorem items_none {α : Type} (n : Nat) : items (List.replicate n (none : Option (Ent α))) = [] := by
  induction n with
  | zero => rfl
  | succ n ih => rw [List.replicate_succ]; simp [items]
theorem WF.none {α : Type} (h : ByteArray → Nat) (N : Nat) (hh : ∀ k, h k < N) : WF h N (List.replicate N (none : Option (Ent α))) := by
  refine ⟨List.length_replicate, hh, by rw [items_none]; exact List.nodup_nil, fun p k v hp he => ?_⟩
  have : at_ (List.replicate N (Option.none : Option (Ent α))) p = Option.none := by
    unfold at_; rw [List.getD_eq_getElem?_getD, List.getElem?_replicate]; simp [hp]
  rw [this] at he; cases he
theorem iaway_any (p b : Nat) (N i j : Nat) (w : World) (hc2 : w.cell? ⟨p, 2, none⟩ = some (.slice (some ⟨b, 0, none⟩) N N)) (hi : i < N) (hj : j < N) (hN : N ≤ 10000) :
    Calls Try.prog 70 #[.pointer (some ⟨p, 0, none⟩), .int .i64 (i : Int), .int .i64 (j : Int)] w fun e w' => e = .returned (.int .i64 (dist N i j : Nat)) ∧ ∃ n, w' = w.drewN n := by
  have e1 : ((N : Int) == 0) = false := by simp; omega
  have e2 : 0 ≤ (j : Int) - i + N := by omega
  have E3 := Lib.hid (show (j : Int) - i + N = ((j + N - i : Nat) : Int) by omega)
  have E4 := Lib.hid (dist_mod N i j hi hj)
  go_enter Try.func70, Try.ntmps70
  go_wp2
  go_quiet (fail)
  go_wp2
  go_ret
  refine ⟨?_, _, rfl⟩
  show Ending.returned (.int .i64 (((j : Int) - i + N) % (N : Int))) = _
  rw [E3.out, ← E4.out]; rfl
theorem islots_any {p b most : Nat} {sl : List (Option (Ent Int))} {w : World} (HT : TabI w p b most sl) :
    Calls Try.prog 62 #[.pointer (some ⟨p, 0, none⟩)] w fun e w' => e = .returned (.int .i64 ((2 * most : Nat) : Int)) ∧ w = w' := by
  have hc2 := HT.c2
  go_enter Try.func62, Try.ntmps62
  go_wp2
  go_ret
  exact ⟨by simp, rfl⟩
theorem iowner_low {p b most : Nat} {sl : List (Option (Ent Int))} {w : World} (i : Int) (hi : i < 0) :
    Calls Try.prog 79 #[.pointer (some ⟨p, 0, none⟩), .int .i64 i] w fun e w' => e = .returned (.tuple #[.string ⟨#[]⟩, .bool false]) ∧ w = w' := by
  have c1 : decide (i < 0) = true := decide_eq_true hi
  go_enter Try.func79, Try.ntmps79
  go_wp2
  go_ret2
  exact ⟨rfl, rfl⟩
theorem iowner_high {p b most : Nat} {sl : List (Option (Ent Int))} {w : World} (HT : TabI w p b most sl) (i : Nat) (hi : 2 * most ≤ i) :
    Calls Try.prog 79 #[.pointer (some ⟨p, 0, none⟩), .int .i64 (i : Int)] w fun e w' => e = .returned (.tuple #[.string ⟨#[]⟩, .bool false]) ∧ w = w' := by
  have c1 : decide ((i : Int) < 0) = false := decide_eq_false (by omega)
  have c2 : decide (((2 * most : Nat) : Int) ≤ (i : Int)) = true := decide_eq_true (by omega)
  have c3 : decide (2 * (most : Int) ≤ (i : Int)) = true := decide_eq_true (by omega)
  have c4 : decide (2 * most ≤ i) = true := decide_eq_true (by omega)
  have HT := Aside0.mk HT
  go_enter Try.func79, Try.ntmps79
  go_wp2_with fail
  (with_reducible refine (islots_any HT.out).mono ?_); rintro e w' ⟨rfl, rfl⟩
  go_wp2
  go_ret2
  exact ⟨rfl, rfl⟩
theorem iowner_none {p b most : Nat} {sl : List (Option (Ent Int))} {w : World} (HT : TabI w p b most sl) (i : Nat) (hi : i < 2 * most) (he : at_ sl i = none) :
    Calls Try.prog 79 #[.pointer (some ⟨p, 0, none⟩), .int .i64 (i : Int)] w fun e w' => e = .returned (.tuple #[.string ⟨#[]⟩, .bool false]) ∧ w = w' := by
  have c1 : decide ((i : Int) < 0) = false := decide_eq_false (by omega)
  have c2 : decide (((2 * most : Nat) : Int) ≤ (i : Int)) = false := decide_eq_false (by omega)
  have c3 : decide (2 * (most : Int) ≤ (i : Int)) = false := decide_eq_false (by omega)
  have c4 : decide (2 * most ≤ i) = false := decide_eq_false (by omega)
  have hc2 := HT.c2
  obtain ⟨h0, h1, h2⟩ := HT.none_at hi he
  have HT := Aside0.mk HT
  clear he
  go_enter Try.func79, Try.ntmps79
  go_wp2_with fail
  (with_reducible refine (islots_any HT.out).mono ?_); rintro e w' ⟨rfl, rfl⟩
  go_wp2
  go_ret2
  exact ⟨rfl, rfl⟩
theorem iowner_some {p b most : Nat} {sl : List (Option (Ent Int))} {w : World} (HT : TabI w p b most sl) (i : Nat) (hi : i < 2 * most) {k : ByteArray} {v : Int} (he : at_ sl i = some (k, v)) :
    Calls Try.prog 79 #[.pointer (some ⟨p, 0, none⟩), .int .i64 (i : Int)] w fun e w' => e = .returned (.tuple #[.string k, .bool true]) ∧ w = w' := by
  have c1 : decide ((i : Int) < 0) = false := decide_eq_false (by omega)
  have c2 : decide (((2 * most : Nat) : Int) ≤ (i : Int)) = false := decide_eq_false (by omega)
  have c3 : decide (2 * (most : Int) ≤ (i : Int)) = false := decide_eq_false (by omega)
  have c4 : decide (2 * most ≤ i) = false := decide_eq_false (by omega)
  have hc2 := HT.c2
  obtain ⟨h0, h1, h2⟩ := HT.some_at hi he
  have HT := Aside0.mk HT
  clear he
  go_enter Try.func79, Try.ntmps79
  go_wp2_with fail
  (with_reducible refine (islots_any HT.out).mono ?_); rintro e w' ⟨rfl, rfl⟩
  go_wp2
  go_ret2
  exact ⟨rfl, rfl⟩

end Go.Proofs.Ytjgoddieamphpaa.Obj
