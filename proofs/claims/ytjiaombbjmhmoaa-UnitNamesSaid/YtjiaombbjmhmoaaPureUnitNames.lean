/- UnitNames: a text is a unit's name just if that unit is of that name, for every text; no condition. -/
import Derived.Test.YtjiaombbjmhmoaaPUnitNamesx2
namespace Go.Proofs.Ytjiaombbjmhmoaa.Pure
open Go.RowKit Go.Proofs.Ytjiaombbjmhmoaa.PUnitNames Go.Proofs.YtjiaombbjmhmoaaW.PrintWords Go.Proofs.YtjiaombbjmhmoaaW.PrintLast Go.Proofs.YtjiaombbjmhmoaaW.PrintMore

def sec (u : Int) : Int := if u = 1 then 1 else if u = 2 then 60 else if u = 3 then 3600 else if u = 4 then 86400 else 0
def hold (a : Int) : Int := if a < 0 then 0 else if a > 4611686018427387904 then 4611686018427387904 else a
theorem sec_cases (u : Int) : sec u = 0 ∨ sec u = 1 ∨ sec u = 60 ∨ sec u = 3600 ∨ sec u = 86400 := by
  unfold sec
  repeat' split
  all_goals omega
theorem hold_rng (a : Int) : 0 ≤ hold a ∧ hold a ≤ 4611686018427387904 := by
  unfold hold
  repeat' split
  all_goals omega
theorem u_cases (u : Int) : u < 1 ∨ u > 4 ∨ u = 1 ∨ u = 2 ∨ u = 3 ∨ u = 4 := by omega
theorem secs_f (u : Int) : unit_Secs.f u = some (sec u) := by
  rcases u_cases u with h | h | rfl | rfl | rfl | rfl
  · unfold unit_Secs.f sec
    rw [if_pos h, if_neg (by omega), if_neg (by omega), if_neg (by omega), if_neg (by omega)]
  · unfold unit_Secs.f sec
    rw [if_neg (by omega), if_pos h, if_neg (by omega), if_neg (by omega), if_neg (by omega), if_neg (by omega)]
  all_goals decide +kernel
theorem numhold_f (a : Int) : num_Hold.f a = some (hold a) := by
  unfold num_Hold.f hold mx mn
  congr 1
  repeat' split
  all_goals omega
theorem div_f (a b : Int) (h0 : 0 ≤ b) (h1 : b ≤ 86400) : num_Div.f a b = some (if b = 0 then (0, 1) else (hold a / b, 0)) := by
  have hb : hold b = b := by unfold hold; rw [if_neg (by omega), if_neg (by omega)]
  have ha := hold_rng a
  unfold num_Div.f
  rw [numhold_f, numhold_f, hb]
  simp only [Option.bind_some]
  by_cases h : b = 0
  · rw [if_pos h, if_pos h]
  · rw [if_neg h, if_neg h, if_neg h, Int.tdiv_eq_ediv_of_nonneg ha.1]
    have d0 : 0 ≤ hold a / b := Int.ediv_nonneg ha.1 h0
    have d1 : hold a / b ≤ hold a := Int.ediv_le_self _ ha.1
    rw [show wrap64 (hold a / b) = hold a / b from by unfold wrap64; omega]
def win (a u : Int) : Int := hold a / sec u
theorem win_rng (a u : Int) : 0 ≤ win a u ∧ win a u * sec u ≤ hold a := by
  have ha := hold_rng a
  unfold win
  rcases sec_cases u with h | h | h | h | h <;> rw [h] <;> constructor <;> omega
theorem window_f (a u : Int) : unit_Window.f a u = some (win a u) := by
  have hs := sec_cases u
  unfold unit_Window.f
  rw [secs_f]
  simp only [Option.bind_some]
  rw [div_f a (sec u) (by omega) (by omega)]
  simp only [Option.bind_some]
  by_cases h : sec u = 0
  · rw [if_pos h]; unfold win; rw [h, Int.ediv_zero]
  · rw [if_neg h]; rfl
theorem start_f (a u : Int) : unit_Start.f a u = some (win a u * sec u) := by
  have hs := sec_cases u
  have hw := win_rng a u
  have ha := hold_rng a
  have h0 : 0 ≤ win a u * sec u := Int.mul_nonneg hw.1 (by omega)
  unfold unit_Start.f
  rw [window_f, secs_f]
  simp only [Option.bind_some]
  rw [show wrap64 (win a u * sec u) = win a u * sec u from by unfold wrap64; omega]
theorem end_f (a u : Int) : unit_End.f a u = some (win a u * sec u + sec u) := by
  have hs := sec_cases u
  have hw := win_rng a u
  have ha := hold_rng a
  have h0 : 0 ≤ win a u * sec u := Int.mul_nonneg hw.1 (by omega)
  unfold unit_End.f
  rw [start_f, secs_f]
  simp only [Option.bind_some]
  rw [show wrap64 (win a u * sec u + sec u) = win a u * sec u + sec u from by unfold wrap64; omega]
theorem reset_f (a u : Int) : unit_Reset.f a u = some (if sec u = 0 then 0 else win a u * sec u + sec u - hold a) := by
  have hs := sec_cases u
  have hw := win_rng a u
  have ha := hold_rng a
  have h0 : 0 ≤ win a u * sec u := Int.mul_nonneg hw.1 (by omega)
  unfold unit_Reset.f
  rw [secs_f, end_f, numhold_f]
  simp only [Option.bind_some]
  by_cases h : sec u = 0
  · rw [if_pos h, if_pos h]
  · rw [if_neg h, if_neg h, show wrap64 (win a u * sec u + sec u - hold a) = win a u * sec u + sec u - hold a from by unfold wrap64; omega]
theorem awake_ev : ∃ K, ∀ k, K ≤ k → turncocklaw15_awake.f k = some true := Ev.of turncocklaw15_awake.mono (k := 8) (by decide +kernel)

theorem UnitNames : turncocklaw15_UnitNames.Pure := by
  intro s _
  obtain ⟨K, hK⟩ := awake_ev
  refine ⟨K + 8, ?_⟩
  have hA : turncocklaw15_awake.f (K + 8) = some true := hK _ (by omega)
  have fin : ∀ u : Int, (u = 0 ∨ (unit_Name.f u = some s ∧ sec u > 0)) → unit_Of.f (K + 8) s = some u → turncockref15_UnitOf.f (K + 8) s = some u → turncocklaw15_UnitNames.f (K + 8) s = some true := by
    intro u hu e1 e2
    unfold turncocklaw15_UnitNames.f
    rw [e1, e2]
    simp only [Option.bind_some, if_true]
    by_cases h : u = 0
    · rw [if_pos h, hA]; rfl
    · rcases hu with hu | ⟨hn, hs⟩
      · exact absurd hu h
      · rw [if_neg h, hn, secs_f, hA]
        simp only [Option.bind_some, if_true]
        rw [if_pos hs]
  have ext : ∀ l : List UInt8, s.data.toList = l → s = ⟨l.toArray⟩ := by
    intro l h
    rcases s with ⟨⟨d⟩⟩
    simp at h
    rw [h]
  by_cases h0 : s.data.toList = []
  · refine fin 0 (.inl rfl) ?_ ?_
    · simp [unit_Of.f, unit_names.f, slices_Index_string_string.f, slices_Index_string_string.l0, rdOf, h0, ByteArray.toList_eq, mx, wrap64]
    · simp [turncockref15_UnitOf.f, turncockref15_UnitOf.l0, turncockref15_Unit.f, h0, ByteArray.toList_eq, wrap64]
  by_cases h1 : s.data.toList = [115, 101, 99, 111, 110, 100]
  · refine fin 1 (.inr ⟨by rw [ext _ h1]; rfl, by decide⟩) ?_ ?_
    · simp [unit_Of.f, unit_names.f, slices_Index_string_string.f, slices_Index_string_string.l0, rdOf, h1, ByteArray.toList_eq, mx, wrap64]
    · simp [turncockref15_UnitOf.f, turncockref15_UnitOf.l0, turncockref15_Unit.f, h1, ByteArray.toList_eq, wrap64]
  by_cases h2 : s.data.toList = [109, 105, 110, 117, 116, 101]
  · refine fin 2 (.inr ⟨by rw [ext _ h2]; rfl, by decide⟩) ?_ ?_
    · simp [unit_Of.f, unit_names.f, slices_Index_string_string.f, slices_Index_string_string.l0, rdOf, h2, ByteArray.toList_eq, mx, wrap64]
    · simp [turncockref15_UnitOf.f, turncockref15_UnitOf.l0, turncockref15_Unit.f, h2, ByteArray.toList_eq, wrap64]
  by_cases h3 : s.data.toList = [104, 111, 117, 114]
  · refine fin 3 (.inr ⟨by rw [ext _ h3]; rfl, by decide⟩) ?_ ?_
    · simp [unit_Of.f, unit_names.f, slices_Index_string_string.f, slices_Index_string_string.l0, rdOf, h3, ByteArray.toList_eq, mx, wrap64]
    · simp [turncockref15_UnitOf.f, turncockref15_UnitOf.l0, turncockref15_Unit.f, h3, ByteArray.toList_eq, wrap64]
  by_cases h4 : s.data.toList = [100, 97, 121]
  · refine fin 4 (.inr ⟨by rw [ext _ h4]; rfl, by decide⟩) ?_ ?_
    · simp [unit_Of.f, unit_names.f, slices_Index_string_string.f, slices_Index_string_string.l0, rdOf, h4, ByteArray.toList_eq, mx, wrap64]
    · simp [turncockref15_UnitOf.f, turncockref15_UnitOf.l0, turncockref15_Unit.f, h4, ByteArray.toList_eq, wrap64]
  have arr : ∀ l : List UInt8, ¬ s.data.toList = l → ¬ s.data = l.toArray := by
    intro l h e
    exact h (by rw [e])
  have q0 := arr _ h0
  have q1 := arr _ h1
  have q2 := arr _ h2
  have q3 := arr _ h3
  have q4 := arr _ h4
  have g1 : ¬ (#[115, 101, 99, 111, 110, 100] : Array UInt8) = s.data := fun h => arr _ h1 h.symm
  have g2 : ¬ (#[109, 105, 110, 117, 116, 101] : Array UInt8) = s.data := fun h => arr _ h2 h.symm
  have g3 : ¬ (#[104, 111, 117, 114] : Array UInt8) = s.data := fun h => arr _ h3 h.symm
  have g4 : ¬ (#[100, 97, 121] : Array UInt8) = s.data := fun h => arr _ h4 h.symm
  refine fin 0 (.inl rfl) ?_ ?_
  · simp [unit_Of.f, unit_names.f, slices_Index_string_string.f, slices_Index_string_string.l0, rdOf, q0, q1, q2, q3, q4, ByteArray.toList_eq, mx, wrap64]
  · simp [turncockref15_UnitOf.f, turncockref15_UnitOf.l0, turncockref15_Unit.f, g1, g2, g3, g4, ByteArray.toList_eq, wrap64]

end Go.Proofs.Ytjiaombbjmhmoaa.Pure
