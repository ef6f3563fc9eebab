/- UnitTells: seconds, name, window, begin, end and reset of every time and every unit are the document's; no condition. -/
import Derived.Test.YtjiaombbjmhmoaaPUnitTellsx2
namespace Go.Proofs.Ytjiaombbjmhmoaa.Pure
open Go.RowKit Go.Proofs.Ytjiaombbjmhmoaa.PUnitTells Go.Proofs.YtjiaombbjmhmoaaW.PrintWords Go.Proofs.YtjiaombbjmhmoaaW.PrintLast Go.Proofs.YtjiaombbjmhmoaaW.PrintMore

def sec (u : Int) : Int := if u = 1 then 1 else if u = 2 then 60 else if u = 3 then 3600 else if u = 4 then 86400 else 0
def hold (a : Int) : Int := if a < 0 then 0 else if a > 4611686018427387904 then 4611686018427387904 else a
theorem sec_cases (u : Int) : sec u = 0 ∨ sec u = 1 ∨ sec u = 60 ∨ sec u = 3600 ∨ sec u = 86400 := by
  unfold sec
  repeat' split
  all_goals omega
theorem hold_rng (a : Int) : 0 ≤ hold a ∧ hold a ≤ 4611686018427387904 := by
  unfold hold
  repeat' split
  all_goals omega
theorem u_cases (u : Int) : u < 1 ∨ u > 4 ∨ u = 1 ∨ u = 2 ∨ u = 3 ∨ u = 4 := by omega
theorem secs_f (u : Int) : unit_Secs.f u = some (sec u) := by
  rcases u_cases u with h | h | rfl | rfl | rfl | rfl
  · unfold unit_Secs.f sec
    rw [if_pos h, if_neg (by omega), if_neg (by omega), if_neg (by omega), if_neg (by omega)]
  · unfold unit_Secs.f sec
    rw [if_neg (by omega), if_pos h, if_neg (by omega), if_neg (by omega), if_neg (by omega), if_neg (by omega)]
  all_goals decide +kernel
theorem numhold_f (a : Int) : num_Hold.f a = some (hold a) := by
  unfold num_Hold.f hold mx mn
  congr 1
  repeat' split
  all_goals omega
theorem div_f (a b : Int) (h0 : 0 ≤ b) (h1 : b ≤ 86400) : num_Div.f a b = some (if b = 0 then (0, 1) else (hold a / b, 0)) := by
  have hb : hold b = b := by unfold hold; rw [if_neg (by omega), if_neg (by omega)]
  have ha := hold_rng a
  unfold num_Div.f
  rw [numhold_f, numhold_f, hb]
  simp only [Option.bind_some]
  by_cases h : b = 0
  · rw [if_pos h, if_pos h]
  · rw [if_neg h, if_neg h, if_neg h, Int.tdiv_eq_ediv_of_nonneg ha.1]
    have d0 : 0 ≤ hold a / b := Int.ediv_nonneg ha.1 h0
    have d1 : hold a / b ≤ hold a := Int.ediv_le_self _ ha.1
    rw [show wrap64 (hold a / b) = hold a / b from by unfold wrap64; omega]
def win (a u : Int) : Int := hold a / sec u
theorem win_rng (a u : Int) : 0 ≤ win a u ∧ win a u * sec u ≤ hold a := by
  have ha := hold_rng a
  unfold win
  rcases sec_cases u with h | h | h | h | h <;> rw [h] <;> constructor <;> omega
theorem window_f (a u : Int) : unit_Window.f a u = some (win a u) := by
  have hs := sec_cases u
  unfold unit_Window.f
  rw [secs_f]
  simp only [Option.bind_some]
  rw [div_f a (sec u) (by omega) (by omega)]
  simp only [Option.bind_some]
  by_cases h : sec u = 0
  · rw [if_pos h]; unfold win; rw [h, Int.ediv_zero]
  · rw [if_neg h]; rfl
theorem start_f (a u : Int) : unit_Start.f a u = some (win a u * sec u) := by
  have hs := sec_cases u
  have hw := win_rng a u
  have ha := hold_rng a
  have h0 : 0 ≤ win a u * sec u := Int.mul_nonneg hw.1 (by omega)
  unfold unit_Start.f
  rw [window_f, secs_f]
  simp only [Option.bind_some]
  rw [show wrap64 (win a u * sec u) = win a u * sec u from by unfold wrap64; omega]
theorem end_f (a u : Int) : unit_End.f a u = some (win a u * sec u + sec u) := by
  have hs := sec_cases u
  have hw := win_rng a u
  have ha := hold_rng a
  have h0 : 0 ≤ win a u * sec u := Int.mul_nonneg hw.1 (by omega)
  unfold unit_End.f
  rw [start_f, secs_f]
  simp only [Option.bind_some]
  rw [show wrap64 (win a u * sec u + sec u) = win a u * sec u + sec u from by unfold wrap64; omega]
theorem reset_f (a u : Int) : unit_Reset.f a u = some (if sec u = 0 then 0 else win a u * sec u + sec u - hold a) := by
  have hs := sec_cases u
  have hw := win_rng a u
  have ha := hold_rng a
  have h0 : 0 ≤ win a u * sec u := Int.mul_nonneg hw.1 (by omega)
  unfold unit_Reset.f
  rw [secs_f, end_f, numhold_f]
  simp only [Option.bind_some]
  by_cases h : sec u = 0
  · rw [if_pos h, if_pos h]
  · rw [if_neg h, if_neg h, show wrap64 (win a u * sec u + sec u - hold a) = win a u * sec u + sec u - hold a from by unfold wrap64; omega]
theorem awake_ev : ∃ K, ∀ k, K ≤ k → turncocklaw15_awake.f k = some true := Ev.of turncocklaw15_awake.mono (k := 8) (by decide +kernel)

theorem rsecs_f (u : Int) : turncockref15_Secs.f u = some (sec u) := by
  unfold turncockref15_Secs.f sec
  repeat' split
  all_goals rfl
theorem rhold_f (a : Int) : turncockref1_Hold.f a = some (hold a) := by
  unfold turncockref1_Hold.f hold
  repeat' split
  all_goals rfl
theorem rwindow_f (a u : Int) : turncockref15_Window.f a u = some (win a u) := by
  have hs := sec_cases u
  have ha := hold_rng a
  unfold turncockref15_Window.f
  rw [rsecs_f, rhold_f]
  simp only [Option.bind_some]
  by_cases h : sec u = 0
  · rw [if_pos h]; unfold win; rw [h, Int.ediv_zero]
  · rw [if_neg h, if_neg h, Int.tdiv_eq_ediv_of_nonneg ha.1]
    have d0 : 0 ≤ hold a / sec u := Int.ediv_nonneg ha.1 (by omega)
    have d1 : hold a / sec u ≤ hold a := Int.ediv_le_self _ ha.1
    rw [show wrap64 (hold a / sec u) = hold a / sec u from by unfold wrap64; omega]; rfl
theorem rstart_f (a u : Int) : turncockref15_Start.f a u = some (win a u * sec u) := by
  have hs := sec_cases u
  have hw := win_rng a u
  have ha := hold_rng a
  have h0 : 0 ≤ win a u * sec u := Int.mul_nonneg hw.1 (by omega)
  unfold turncockref15_Start.f
  rw [rwindow_f, rsecs_f]
  simp only [Option.bind_some]
  rw [show wrap64 (win a u * sec u) = win a u * sec u from by unfold wrap64; omega]
theorem rend_f (a u : Int) : turncockref15_End.f a u = some (win a u * sec u + sec u) := by
  have hs := sec_cases u
  have hw := win_rng a u
  have ha := hold_rng a
  have h0 : 0 ≤ win a u * sec u := Int.mul_nonneg hw.1 (by omega)
  unfold turncockref15_End.f
  rw [rstart_f, rsecs_f]
  simp only [Option.bind_some]
  rw [show wrap64 (win a u * sec u + sec u) = win a u * sec u + sec u from by unfold wrap64; omega]
theorem rreset_f (a u : Int) : turncockref15_Reset.f a u = some (if sec u = 0 then 0 else win a u * sec u + sec u - hold a) := by
  have hs := sec_cases u
  have hw := win_rng a u
  have ha := hold_rng a
  have h0 : 0 ≤ win a u * sec u := Int.mul_nonneg hw.1 (by omega)
  unfold turncockref15_Reset.f
  rw [rsecs_f, rend_f, rhold_f]
  simp only [Option.bind_some]
  by_cases h : sec u = 0
  · rw [if_pos h, if_pos h]
  · rw [if_neg h, if_neg h, show wrap64 (win a u * sec u + sec u - hold a) = win a u * sec u + sec u - hold a from by unfold wrap64; omega]
theorem name_f (u : Int) : ∃ s, unit_Name.f u = some s ∧ turncockref15_Unit.f u = some s := by
  rcases u_cases u with h | h | rfl | rfl | rfl | rfl
  · refine ⟨⟨#[]⟩, ?_, ?_⟩
    · unfold unit_Name.f
      rw [secs_f, show sec u = 0 from by unfold sec; rw [if_neg (by omega), if_neg (by omega), if_neg (by omega), if_neg (by omega)]]
      rfl
    · unfold turncockref15_Unit.f
      rw [if_neg (by omega), if_neg (by omega), if_neg (by omega), if_neg (by omega)]
  · refine ⟨⟨#[]⟩, ?_, ?_⟩
    · unfold unit_Name.f
      rw [secs_f, show sec u = 0 from by unfold sec; rw [if_neg (by omega), if_neg (by omega), if_neg (by omega), if_neg (by omega)]]
      rfl
    · unfold turncockref15_Unit.f
      rw [if_neg (by omega), if_neg (by omega), if_neg (by omega), if_neg (by omega)]
  all_goals exact ⟨_, rfl, rfl⟩
theorem UnitTells : turncocklaw15_UnitTells.Pure := by
  intro a u _ _
  obtain ⟨K, hK⟩ := awake_ev
  obtain ⟨s, h1, h2⟩ := name_f u
  refine ⟨K, ?_⟩
  unfold turncocklaw15_UnitTells.f
  rw [secs_f, rsecs_f, h1, h2, window_f, rwindow_f, start_f, rstart_f, end_f, rend_f, reset_f, rreset_f, hK _ (by omega)]
  simp

end Go.Proofs.Ytjiaombbjmhmoaa.Pure
