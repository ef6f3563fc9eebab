/- A part of the proof. -/
import Derived.Test.YtjgoddieamphpaaOTU
import Derived.Sort.OwnSorted
namespace Go.Proofs.Ytjgoddieamphpaa.Obj
open Go.RowKit Go.Sort Go.Proofs.YtjgoddieamphpaaW.PrintWords Go.Proofs.YtjgoddieamphpaaW.PrintLast Probe Go.Proofs.Ytjgoddieamphpaa.PProbeActs
set_option maxRecDepth 100000
set_option linter.unusedVariables false
/-- The list of byte strings, sorted as the library's sort sorts it. -/
def sortB (xs : List ByteArray) : List ByteArray := ((xs.map fun x => x.data.toList).mergeSort fun x y => decide (x ≤ y)).map fun l => ⟨l.toArray⟩
theorem sortB_len (xs : List ByteArray) : (sortB xs).length = xs.length := by unfold sortB; rw [List.length_map, List.length_mergeSort, List.length_map]
theorem sort_R {w : World} {base : Nat} {v : Value} {xs : List ByteArray} (h : Kd.R Kd.string 9 w base (fun _ => True) v xs) (hn : xs.length < 4611686018427387904) :
    Calls Try.prog 90 #[v] w fun e w' => e = .returned (.tuple #[]) ∧ Kd.R Kd.string 9 w' base (fun _ => True) v (sortB xs) ∧ w.grownBy w' v.ownBlock := by
  obtain ⟨hok, inner, hown, hr⟩ := h
  have hl1 : inner.length = xs.length := by have h3 := hr.1; have : Kd.string.sz = 1 := rfl; rw [this] at h3; omega
  have hin : inner = (xs.map fun x => x.data.toList).map encStr := by
    apply List.ext_getElem?
    intro j
    by_cases hj : j < xs.length
    · have h2 := hr.2 j xs[j] (List.getElem?_eq_getElem hj)
      have e1 : Kd.string.sz = 1 := rfl
      rw [e1, Nat.mul_one] at h2
      have h3 : (inner.drop j).take 1 = [Value.string xs[j]] := h2
      have h4 : inner[j]? = some (Value.string xs[j]) := by
        have : ((inner.drop j).take 1)[0]? = some (Value.string xs[j]) := by rw [h3]; rfl
        rw [List.getElem?_take_of_lt (by omega), List.getElem?_drop] at this
        simpa using this
      rw [h4]
      simp [hj]
    · rw [List.getElem?_eq_none (by omega), List.getElem?_eq_none (by simp; omega)]
  have hl : (xs.map fun x => x.data.toList).length = xs.length := List.length_map _
  rcases hown.2 with ⟨hv, hi⟩ | ⟨g, cap, cur, hv, hb, hh, q1, q2, q3, q4⟩
  · subst hv
    obtain rfl : xs = [] := List.length_eq_zero_iff.1 hi
    refine (Try.slices_Sort_string_none none 0 w).mono ?_
    rintro e w' ⟨rfl, rfl⟩
    exact ⟨rfl, by rw [show sortB [] = [] by unfold sortB; simp]; exact Kd.R_nil _ _ _ _ _, ⟨rfl, rfl, rfl, Nat.le_refl _, fun _ _ _ => rfl⟩⟩
  · subst hv
    have key := Try.slices_Sort_string g 0 cap (xs.map fun x => x.data.toList) w (holds_of_block hh (by rw [hl, ← hin, ← q4]; show _ = List.take (xs.length * 1) _; rw [Nat.mul_one])) (Array.getElem?_eq_some_iff.1 hh).1 (by omega)
    rw [hl] at key
    refine key.mono ?_
    rintro e w' ⟨rfl, n, os, rfl⟩
    refine ⟨rfl, ⟨fun _ _ => trivial, ((xs.map fun x => x.data.toList).mergeSort fun x y => decide (x ≤ y)).map encStr, ?_, ?_⟩, grownBy_sorted _⟩
    · have := ownsRow_sorted (w := w) (n := n) (os := os) (ss := xs.map fun x => x.data.toList) (ts := (xs.map fun x => x.data.toList).mergeSort fun x y => decide (x ≤ y)) (List.length_mergeSort _) hb hh (by rw [hl]; exact q1) q2 q3
      rw [hl] at this
      rw [sortB_len]
      exact this
    · refine ⟨by rw [List.length_map, List.length_mergeSort, hl, sortB_len]; show _ = _ * 1; omega, fun j p hj => ?_⟩
      have e1 : Kd.string.sz = 1 := rfl
      rw [e1, Nat.mul_one]
      unfold sortB at hj
      rw [List.getElem?_map] at hj
      obtain ⟨l, hl2, rfl⟩ := Option.map_eq_some_iff.1 hj
      show _ = [Value.string ⟨l.toArray⟩]
      rw [← List.map_drop, ← List.map_take]
      obtain ⟨hjl, he⟩ := List.getElem?_eq_some_iff.1 hl2
      rw [List.drop_eq_getElem_cons hjl, List.take_succ_cons, List.take_zero, List.map_cons, List.map_nil, he]
end Go.Proofs.Ytjgoddieamphpaa.Obj
