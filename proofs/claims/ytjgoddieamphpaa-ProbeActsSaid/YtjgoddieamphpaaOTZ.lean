/- A part of the proof. -/
import Derived.Test.YtjgoddieamphpaaON9
import Derived.Test.YtjgoddieamphpaaOTY
namespace Go.Proofs.Ytjgoddieamphpaa.Obj
open Go.RowKit Go.Proofs.YtjgoddieamphpaaW.PrintWords Go.Proofs.YtjgoddieamphpaaW.PrintLast Probe Go.Proofs.Ytjgoddieamphpaa.PProbeActs
set_option maxRecDepth 100000
set_option linter.unusedVariables false
def keyL (L : List S98) (i : Nat) : ByteArray := (L.getD i z98).f0
/-- Where the least key of the first j places stands. -/
def lst (L : List S98) : Nat → Nat
  | 0 => 0
  | j + 1 => if Op.bytesLess (keyL L j).toList (keyL L (lst L j)).toList = true then j else lst L j
theorem lst_lt (L : List S98) : ∀ j, 0 < j → lst L j < j
  | 0, h => by omega
  | j + 1, _ => by
    unfold lst
    split
    · omega
    · by_cases hj : j = 0
      · subst hj; unfold lst; omega
      · have := lst_lt L j (by omega); omega
theorem blt_irr (x : List UInt8) : Op.bytesLess x x = false := by
  induction x with
  | nil => rfl
  | cons a t ih =>
    unfold Op.bytesLess
    rw [ih]
    simp
theorem lst_one (L : List S98) : lst L 1 = 0 := by
  unfold lst
  rw [if_neg]
  · rfl
  · show ¬ Op.bytesLess (keyL L 0).toList (keyL L (lst L 0)).toList = true
    rw [show lst L 0 = 0 from rfl, blt_irr]
    decide
def selN : Nat → List S98 → List ByteArray
  | 0, _ => []
  | n + 1, L => if L.length = 0 then [] else keyL L (lst L L.length) :: selN n (dropAt L (lst L L.length))
theorem rd_key (L : List S98) (i : Nat) : (rd_T98 L (i : Int)).f0 = keyL L i := by unfold rd_T98 keyL; rw [Int.toNat_natCast]
theorem names_l1 (L : List S98) (out : List ByteArray) (hN : L.length ≤ 1000000) (ho : out.length ≤ 1000000) : ∀ d j k, L.length = j + d → 0 < j → d < k →
    turncockref20_Names.l1 k L out (lst L j : Nat) (j : Nat) = turncockref20_Names.l0 (k - 1 - d) (dropAt L (lst L L.length)) (out ++ [keyL L (lst L L.length)])
  | 0, j, k, hd, hj, hk => by
    obtain ⟨k, rfl⟩ : ∃ m, k = m + 1 := ⟨k - 1, by omega⟩
    simp only [turncockref20_Names.l1]
    obtain rfl : j = L.length := by omega
    have hl := lst_lt L L.length hj
    rw [if_neg (by omega), if_pos (by omega), if_pos (by omega), if_pos (by omega), drop_f L _ hN hl, rd_key]
    simp only [Option.bind_some, Nat.add_sub_cancel, Nat.sub_zero]
  | d + 1, j, k, hd, hj, hk => by
    obtain ⟨k, rfl⟩ : ∃ m, k = m + 1 := ⟨k - 1, by omega⟩
    simp only [turncockref20_Names.l1]
    have hl := lst_lt L j hj
    have w1 : wrap64 ((j : Int) + 1) = ((j + 1 : Nat) : Int) := by unfold wrap64; omega
    rw [if_pos (by omega), if_pos (by omega), if_pos (by omega), if_pos (by omega), rd_key, rd_key, w1]
    have ih := names_l1 L out hN ho d (j + 1) k (by omega) (by omega) (by omega)
    have e : k + 1 - 1 - (d + 1) = k - 1 - d := by omega
    rw [e, ← ih]
    by_cases hb : Op.bytesLess (keyL L j).toList (keyL L (lst L j)).toList = true
    · rw [if_pos hb]
      have : lst L (j + 1) = j := by show (if _ then j else lst L j) = j; rw [if_pos hb]
      rw [this]
    · rw [if_neg hb]
      have : lst L (j + 1) = lst L j := by show (if _ then j else lst L j) = lst L j; rw [if_neg hb]
      rw [this]
theorem names_l0 : ∀ (n : Nat) (L : List S98) (out : List ByteArray) (k : Nat), L.length = n → n ≤ 1000 → out.length + n ≤ 2000 → (n + 2) * (n + 2) < k → turncockref20_Names.l0 k L out = some (out ++ selN n L)
  | 0, L, out, k, hn, _, _, hk => by
    obtain ⟨k, rfl⟩ : ∃ m, k = m + 1 := ⟨k - 1, by omega⟩
    simp only [turncockref20_Names.l0]
    rw [if_neg (by omega)]
    simp [selN]
  | n + 1, L, out, k, hn, h1, h2, hk => by
    obtain ⟨k, rfl⟩ : ∃ m, k = m + 1 := ⟨k - 1, by omega⟩
    simp only [turncockref20_Names.l0]
    rw [if_pos (by omega)]
    have e : (n + 1 + 2) * (n + 1 + 2) = (n + 2) * (n + 2) + (2 * n + 5) := by simp only [Nat.add_mul, Nat.mul_add]; omega
    have hl1 := names_l1 L out (by omega) (by omega) n 1 k (by omega) (by omega) (by omega)
    rw [lst_one] at hl1
    rw [show ((0 : Nat) : Int) = 0 from rfl, show ((1 : Nat) : Int) = 1 from rfl] at hl1
    rw [hl1]
    have hl := lst_lt L L.length (by omega)
    rw [names_l0 n (dropAt L (lst L L.length)) _ _ (by have := dropAt_len L _ hl; omega) (by omega) (by rw [List.length_append]; simp; omega) (by omega)]
    show _ = some (out ++ (if L.length = 0 then [] else keyL L (lst L L.length) :: selN n (dropAt L (lst L L.length))))
    rw [if_neg (by omega), List.append_assoc]
    rfl
theorem names_f (L : List S98) (h : L.length ≤ 1000) : ∃ k, turncockref20_Names.f k L = some (selN L.length L) := by
  refine ⟨(L.length + 2) * (L.length + 2) + 1, ?_⟩
  unfold turncockref20_Names.f
  rw [names_l0 L.length L [] _ rfl h (by simp; omega) (by omega)]
  rfl
end Go.Proofs.Ytjgoddieamphpaa.Obj
