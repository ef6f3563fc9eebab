/- A part of the proof. -/
import Derived.Test.YtjgoddieamphpaaOTZ
import Derived.Sort.KeysCollected
import Derived.Sort.Walk0
namespace Go.Proofs.Ytjgoddieamphpaa.Obj
open Go.RowKit Go.Sort Go.Proofs.YtjgoddieamphpaaW.PrintWords Go.Proofs.YtjgoddieamphpaaW.PrintLast Probe Go.Proofs.Ytjgoddieamphpaa.PProbeActs
set_option maxRecDepth 100000
set_option linter.unusedVariables false
theorem lst_min (L : List S98) : ∀ j i, i < j → (keyL L (lst L j)).data.toList ≤ (keyL L i).data.toList
  | 0, i, h => by omega
  | j + 1, i, h => by
    unfold lst
    have hb : Op.bytesLess (keyL L j).toList (keyL L (lst L j)).toList = decide ((keyL L j).data.toList < (keyL L (lst L j)).data.toList) := by
      rw [bytesLess_eq, ByteArray.toList_eq, ByteArray.toList_eq]
    rw [hb]
    by_cases hlt : (keyL L j).data.toList < (keyL L (lst L j)).data.toList
    · rw [decide_eq_true hlt, if_pos rfl]
      by_cases hi : i = j
      · subst hi; exact List.le_refl _
      · exact List.le_trans (List.le_of_lt hlt) (lst_min L j i (by omega))
    · rw [decide_eq_false hlt, if_neg (by decide)]
      by_cases hi : i = j
      · subst hi; exact List.not_lt.1 hlt
      · exact lst_min L j i (by omega)
theorem selN_perm : ∀ (n : Nat) (L : List S98), L.length = n → (selN n L).Perm (L.map (·.f0))
  | 0, L, h => by
    obtain rfl : L = [] := List.length_eq_zero_iff.1 h
    exact List.Perm.refl _
  | n + 1, L, h => by
    have hl := lst_lt L L.length (by omega)
    show (if L.length = 0 then [] else keyL L (lst L L.length) :: selN n (dropAt L (lst L L.length))).Perm _
    rw [if_neg (by omega)]
    have ih := selN_perm n (dropAt L (lst L L.length)) (by have := dropAt_len L _ hl; omega)
    refine (List.Perm.cons _ ih).trans ?_
    have hp := (perm_at L (lst L L.length) hl).map (fun x : S98 => x.f0)
    exact hp.symm
theorem selN_sorted : ∀ (n : Nat) (L : List S98), L.length = n → (selN n L).Pairwise (fun x y => x.data.toList ≤ y.data.toList)
  | 0, L, h => List.Pairwise.nil
  | n + 1, L, h => by
    have hl := lst_lt L L.length (by omega)
    show (if L.length = 0 then [] else keyL L (lst L L.length) :: selN n (dropAt L (lst L L.length))).Pairwise _
    rw [if_neg (by omega)]
    have hd : (dropAt L (lst L L.length)).length = n := by have := dropAt_len L _ hl; omega
    refine List.Pairwise.cons (fun y hy => ?_) (selN_sorted n _ hd)
    have hy2 := (selN_perm n _ hd).mem_iff.1 hy
    obtain ⟨x, hx, rfl⟩ := List.mem_map.1 hy2
    have hx2 : x ∈ L := by
      unfold dropAt at hx
      rcases List.mem_append.1 hx with h1 | h1
      · exact List.mem_of_mem_take h1
      · exact List.mem_of_mem_drop h1
    obtain ⟨i, hi, rfl⟩ := List.getElem_of_mem hx2
    have := lst_min L L.length i hi
    have e : keyL L i = L[i].f0 := by unfold keyL; rw [List.getD_eq_getElem?_getD, List.getElem?_eq_getElem hi]; rfl
    rw [e] at this
    exact this
/-- What the document's Names tells is what the library's sort makes of the keys, in whatever order they stood. -/
theorem selN_sortB (L : List S98) (ks : List ByteArray) (h : ks.Perm (L.map (·.f0))) : selN L.length L = sortB ks := by
  have hp : ((selN L.length L).map fun x => x.data.toList).Perm ((ks.map fun x => x.data.toList).mergeSort leB) :=
    (((selN_perm L.length L rfl).trans h.symm).map _).trans (List.mergeSort_perm _ _).symm
  have tr : ∀ a b c : List UInt8, leB a b = true → leB b c = true → leB a c = true := fun a b c h1 h2 => by simp only [leB, decide_eq_true_eq] at *; exact List.le_trans h1 h2
  have tot : ∀ a b : List UInt8, (leB a b || leB b a) = true := fun a b => by simp only [leB, Bool.or_eq_true, decide_eq_true_eq]; exact List.le_total a b
  have e : ((selN L.length L).map fun x => x.data.toList) = (ks.map fun x => x.data.toList).mergeSort leB := by
    refine List.Perm.eq_of_pairwise (le := fun a b => leB a b = true) (fun a b _ _ h1 h2 => ?_) ?_ (List.pairwise_mergeSort tr tot _) hp
    · simp only [leB, decide_eq_true_eq] at h1 h2
      exact List.le_antisymm h1 h2
    · rw [List.pairwise_map]
      exact (selN_sorted L.length L rfl).imp (fun h => decide_eq_true h)
  unfold sortB
  show selN L.length L = ((ks.map fun x => x.data.toList).mergeSort leB).map fun l => ⟨l.toArray⟩
  rw [← e, List.map_map]
  have : ((fun l : List UInt8 => (⟨l.toArray⟩ : ByteArray)) ∘ fun x : ByteArray => x.data.toList) = id := by funext x; rfl
  rw [this, List.map_id]
end Go.Proofs.Ytjgoddieamphpaa.Obj
