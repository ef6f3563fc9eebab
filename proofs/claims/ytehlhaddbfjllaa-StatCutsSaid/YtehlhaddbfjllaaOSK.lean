/- Maps of texts to numbers, and what counts in them: a part of the proof. -/
import Derived.Test.YtehlhaddbfjllaaOSJ
namespace Go.Proofs.Ytehlhaddbfjllaa.Mp
open Go.RowKit Go.Sort Go.Proofs.YtehlhaddbfjllaaW.PrintWords Go.Proofs.YtehlhaddbfjllaaW.PrintLast Go.Proofs.YtehlhaddbfjllaaW.PrintMore Go.Proofs.Ytehlhaddbfjllaa.PStatActs
set_option maxRecDepth 100000
set_option linter.unusedVariables false
/-! Cut. -/
/-- Where the last whole line of the first m bytes ends. -/
def lst (s : ByteArray) : Nat → Nat
  | 0 => 0
  | m + 1 => if (s.data[m]!).toNat = 10 then m + 1 else lst s m
theorem lst_succ (s : ByteArray) (m : Nat) : lst s (m + 1) = if (s.data[m]!).toNat = 10 then m + 1 else lst s m := rfl
theorem lst_le (s : ByteArray) : ∀ m, lst s m ≤ m
  | 0 => Nat.le_refl _
  | m + 1 => by
    unfold lst
    split
    · exact Nat.le_refl _
    · have := lst_le s m; omega
theorem lst_at (s : ByteArray) : ∀ m, lst s m = 0 ∨ (s.data[lst s m - 1]!).toNat = 10
  | 0 => .inl rfl
  | m + 1 => by
    unfold lst
    split
    · rename_i h
      exact .inr h
    · exact lst_at s m
theorem lastIdx_lst (s : ByteArray) (m : Nat) (hm : m ≤ s.size) : ∀ k, k ≤ m → Lib.lastIdx (s.extract 0 m) 10 k + 1 = lst s k
  | 0, _ => rfl
  | k + 1, hk => by
    have ih := lastIdx_lst s m hm k (by omega)
    have e : (s.extract 0 m).data[k]! = s.data[k]! := by
      have h1 : k < (s.extract 0 m).data.size := by
        have : (s.extract 0 m).size = m := by rw [ByteArray.size_extract]; omega
        have h2 : (s.extract 0 m).data.size = (s.extract 0 m).size := rfl
        omega
      have h3 : k < s.data.size := by have : s.data.size = s.size := rfl; omega
      rw [getElem!_pos (s.extract 0 m).data k h1, getElem!_pos s.data k h3]
      simp [ByteArray.data_extract]
    unfold Lib.lastIdx lst
    rw [e]
    by_cases h : (s.data[k]!).toNat = 10
    · rw [if_pos (by rw [h]; rfl), if_pos h]; rfl
    · rw [if_neg (by intro hh; apply h; omega), if_neg h]; exact ih
theorem cut_f (s : ByteArray) (n : Int) (hs : s.size ≤ 5000) : stat_Cut.f s n = some (if (s.size : Int) ≤ n then s else s.extract 0 (lst s (max n 0).toNat)) := by
  unfold stat_Cut.f
  by_cases h : (s.size : Int) ≤ n
  · rw [if_pos h, if_pos h]
  · have hx : mx n 0 = max n 0 := by unfold mx; split <;> omega
    rw [if_neg h, if_neg h, hx, if_pos (by omega), if_pos (by omega)]
    generalize hm : (max n 0).toNat = m
    have hml : m ≤ s.size := by omega
    have hsz : (s.extract 0 m).size = m := by rw [ByteArray.size_extract]; omega
    unfold strings_LastIndexByte.f
    rw [if_pos (by rw [hsz]; omega), Option.bind_some]
    have e : Lib.lastIndexByte (s.extract 0 m) 10 + 1 = lst s m := by
      unfold Lib.lastIndexByte
      rw [hsz]
      exact lastIdx_lst s m hml m (Nat.le_refl _)
    have hl := lst_le s m
    have hw : wrap64 (Lib.lastIndexByte (s.extract 0 m) 10 + 1) = (lst s m : Int) := by rw [e]; unfold wrap64; omega
    rw [hw, if_pos (by omega), if_pos (by omega), Int.toNat_natCast]
theorem rcut_l0 (s : ByteArray) (n : Nat) (hn : n < s.size) (hs : s.size ≤ 5000) : ∀ d i k, i + d = n → d < k → turncockref26_Cut.l0 k s (n : Int) (lst s i : Int) (i : Int) = some (s.extract 0 (lst s n))
  | 0, i, k, hd, hk => by
    obtain ⟨k, rfl⟩ : ∃ m, k = m + 1 := ⟨k - 1, by omega⟩
    have hl := lst_le s n
    obtain rfl : i = n := by omega
    simp only [turncockref26_Cut.l0]
    rw [if_neg (by omega), if_pos (by omega), if_pos (by omega), Int.toNat_natCast]
  | d + 1, i, k, hd, hk => by
    obtain ⟨k, rfl⟩ : ∃ m, k = m + 1 := ⟨k - 1, by omega⟩
    have ih := rcut_l0 s n hn hs d (i + 1) k (by omega) (by omega)
    simp only [turncockref26_Cut.l0]
    have hw : wrap64 ((i : Int) + 1) = ((i + 1 : Nat) : Int) := by unfold wrap64; omega
    have hbt : bt s (i : Int) = ((s.data[i]!).toNat : Int) := by
      have h3 : i < s.data.size := by have : s.data.size = s.size := rfl; omega
      unfold bt
      rw [Int.toNat_natCast, dif_pos (show i < s.size by omega), getElem!_pos s.data i h3]
      rfl
    rw [if_pos (by omega), if_pos (by omega), if_pos (by omega), hw, hbt]
    rw [lst_succ] at ih
    by_cases h : (s.data[i]!).toNat = 10
    · rw [if_pos (by rw [h]; rfl)]
      rw [if_pos h] at ih
      exact ih
    · rw [if_neg (by omega)]
      rw [if_neg h] at ih
      exact ih
theorem rcut_f (s : ByteArray) (n : Int) (hs : s.size ≤ 5000) : ∃ k, turncockref26_Cut.f k s n = some (if (s.size : Int) ≤ n then s else s.extract 0 (lst s (max n 0).toNat)) := by
  by_cases h : (s.size : Int) ≤ n
  · exact ⟨1, by unfold turncockref26_Cut.f; rw [if_pos h, if_pos h]⟩
  · by_cases h0 : 0 ≤ n
    · obtain ⟨m, rfl⟩ : ∃ m : Nat, n = m := ⟨n.toNat, by omega⟩
      refine ⟨m + 1, ?_⟩
      unfold turncockref26_Cut.f
      rw [if_neg h, if_neg h, show (max (m : Int) 0).toNat = m by omega]
      exact rcut_l0 s m (by omega) hs m 0 (m + 1) (by omega) (by omega)
    · refine ⟨1, ?_⟩
      unfold turncockref26_Cut.f
      rw [if_neg h, if_neg h, show (max n 0).toNat = 0 by omega]
      simp only [turncockref26_Cut.l0]
      rw [if_neg (by omega), if_pos (by omega), if_pos (by omega)]
      rfl
def cutB (s : ByteArray) (n : Int) : ByteArray := if (s.size : Int) ≤ n then s else s.extract 0 (lst s (max n 0).toNat)
theorem ccut (s : ByteArray) (n : Int) (hs : s.size ≤ 5000) (w : World) : Calls Try.prog 34 #[.string s, .int .i64 n] w fun e w' => e = .returned (.string (cutB s n)) ∧ Frm (fun _ => False) w w' := cut_of s n _ w (cut_f s n hs)
theorem crcut (s : ByteArray) (n : Int) (hs : s.size ≤ 5000) (w : World) : Calls Try.prog 35 #[.string s, .int .i64 n] w fun e w' => e = .returned (.string (cutB s n)) ∧ Frm (fun _ => False) w w' := by
  obtain ⟨k, hk⟩ := rcut_f s n hs
  refine (turncockref26_Cut.calls k s n _ w hk).mono ?_
  rintro e w' ⟨a, b⟩
  exact ⟨a, by first | exact Frm.of_below b | (obtain ⟨n, rfl⟩ := b; exact (Frm.refl _ w).drewN n)⟩
end Go.Proofs.Ytehlhaddbfjllaa.Mp
