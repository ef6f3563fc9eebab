/- UnitWindows: a time is in its window, which lasts as long as its unit; all times till its end have that window, and at its end the next one begins; for every time and unit, no condition. -/
import Derived.Test.YtjiaombbjmhmoaaPUnitWindowsx2
namespace Go.Proofs.Ytjiaombbjmhmoaa.Pure
open Go.RowKit Go.Proofs.Ytjiaombbjmhmoaa.PUnitWindows Go.Proofs.YtjiaombbjmhmoaaW.PrintWords Go.Proofs.YtjiaombbjmhmoaaW.PrintLast Go.Proofs.YtjiaombbjmhmoaaW.PrintMore

def sec (u : Int) : Int := if u = 1 then 1 else if u = 2 then 60 else if u = 3 then 3600 else if u = 4 then 86400 else 0
def hold (a : Int) : Int := if a < 0 then 0 else if a > 4611686018427387904 then 4611686018427387904 else a
theorem sec_cases (u : Int) : sec u = 0 ∨ sec u = 1 ∨ sec u = 60 ∨ sec u = 3600 ∨ sec u = 86400 := by
  unfold sec
  repeat' split
  all_goals omega
theorem hold_rng (a : Int) : 0 ≤ hold a ∧ hold a ≤ 4611686018427387904 := by
  unfold hold
  repeat' split
  all_goals omega
theorem u_cases (u : Int) : u < 1 ∨ u > 4 ∨ u = 1 ∨ u = 2 ∨ u = 3 ∨ u = 4 := by omega
theorem secs_f (u : Int) : unit_Secs.f u = some (sec u) := by
  rcases u_cases u with h | h | rfl | rfl | rfl | rfl
  · unfold unit_Secs.f sec
    rw [if_pos h, if_neg (by omega), if_neg (by omega), if_neg (by omega), if_neg (by omega)]
  · unfold unit_Secs.f sec
    rw [if_neg (by omega), if_pos h, if_neg (by omega), if_neg (by omega), if_neg (by omega), if_neg (by omega)]
  all_goals decide +kernel
theorem numhold_f (a : Int) : num_Hold.f a = some (hold a) := by
  unfold num_Hold.f hold mx mn
  congr 1
  repeat' split
  all_goals omega
theorem div_f (a b : Int) (h0 : 0 ≤ b) (h1 : b ≤ 86400) : num_Div.f a b = some (if b = 0 then (0, 1) else (hold a / b, 0)) := by
  have hb : hold b = b := by unfold hold; rw [if_neg (by omega), if_neg (by omega)]
  have ha := hold_rng a
  unfold num_Div.f
  rw [numhold_f, numhold_f, hb]
  simp only [Option.bind_some]
  by_cases h : b = 0
  · rw [if_pos h, if_pos h]
  · rw [if_neg h, if_neg h, if_neg h, Int.tdiv_eq_ediv_of_nonneg ha.1]
    have d0 : 0 ≤ hold a / b := Int.ediv_nonneg ha.1 h0
    have d1 : hold a / b ≤ hold a := Int.ediv_le_self _ ha.1
    rw [show wrap64 (hold a / b) = hold a / b from by unfold wrap64; omega]
def win (a u : Int) : Int := hold a / sec u
theorem win_rng (a u : Int) : 0 ≤ win a u ∧ win a u * sec u ≤ hold a := by
  have ha := hold_rng a
  unfold win
  rcases sec_cases u with h | h | h | h | h <;> rw [h] <;> constructor <;> omega
theorem window_f (a u : Int) : unit_Window.f a u = some (win a u) := by
  have hs := sec_cases u
  unfold unit_Window.f
  rw [secs_f]
  simp only [Option.bind_some]
  rw [div_f a (sec u) (by omega) (by omega)]
  simp only [Option.bind_some]
  by_cases h : sec u = 0
  · rw [if_pos h]; unfold win; rw [h, Int.ediv_zero]
  · rw [if_neg h]; rfl
theorem start_f (a u : Int) : unit_Start.f a u = some (win a u * sec u) := by
  have hs := sec_cases u
  have hw := win_rng a u
  have ha := hold_rng a
  have h0 : 0 ≤ win a u * sec u := Int.mul_nonneg hw.1 (by omega)
  unfold unit_Start.f
  rw [window_f, secs_f]
  simp only [Option.bind_some]
  rw [show wrap64 (win a u * sec u) = win a u * sec u from by unfold wrap64; omega]
theorem end_f (a u : Int) : unit_End.f a u = some (win a u * sec u + sec u) := by
  have hs := sec_cases u
  have hw := win_rng a u
  have ha := hold_rng a
  have h0 : 0 ≤ win a u * sec u := Int.mul_nonneg hw.1 (by omega)
  unfold unit_End.f
  rw [start_f, secs_f]
  simp only [Option.bind_some]
  rw [show wrap64 (win a u * sec u + sec u) = win a u * sec u + sec u from by unfold wrap64; omega]
theorem reset_f (a u : Int) : unit_Reset.f a u = some (if sec u = 0 then 0 else win a u * sec u + sec u - hold a) := by
  have hs := sec_cases u
  have hw := win_rng a u
  have ha := hold_rng a
  have h0 : 0 ≤ win a u * sec u := Int.mul_nonneg hw.1 (by omega)
  unfold unit_Reset.f
  rw [secs_f, end_f, numhold_f]
  simp only [Option.bind_some]
  by_cases h : sec u = 0
  · rw [if_pos h, if_pos h]
  · rw [if_neg h, if_neg h, show wrap64 (win a u * sec u + sec u - hold a) = win a u * sec u + sec u - hold a from by unfold wrap64; omega]
theorem awake_ev : ∃ K, ∀ k, K ≤ k → turncocklaw15_awake.f k = some true := Ev.of turncocklaw15_awake.mono (k := 8) (by decide +kernel)

theorem rhold_f (a : Int) : turncockref1_Hold.f a = some (hold a) := by
  unfold turncockref1_Hold.f hold
  repeat' split
  all_goals rfl
theorem hold_in (a : Int) (h0 : 0 ≤ a) (h1 : a ≤ 4611686018427387904) : hold a = a := by
  unfold hold
  rw [if_neg (by omega), if_neg (by omega)]
theorem UnitWindows : turncocklaw15_UnitWindows.Pure := by
  intro a u on _ _ hon
  have hon' : -9223372036854775808 ≤ on ∧ on ≤ 9223372036854775807 := by
    simpa [Lit.wf, IntKind.min, IntKind.max, IntKind.signed, IntKind.bits] using hon
  obtain ⟨K, hK⟩ := awake_ev
  refine ⟨K + 3, ?_⟩
  unfold turncocklaw15_UnitWindows.f
  rw [rhold_f, secs_f, window_f, end_f, start_f, reset_f]
  simp only [Option.bind_some]
  have hs := sec_cases u
  have ha := hold_rng a
  by_cases h : sec u = 0
  · rw [if_pos h, if_pos (by unfold win; rw [h, Int.ediv_zero]), if_pos (by rw [h]; simp), hK _ (by omega)]; rfl
  rw [if_neg h, if_neg h]
  have hq : win a u * sec u ≤ hold a ∧ hold a < win a u * sec u + sec u ∧ 0 ≤ win a u := by
    unfold win
    generalize sec u = n at *
    rcases hs with rfl | rfl | rfl | rfl | rfl <;> omega
  have h0 : 0 ≤ win a u * sec u := Int.mul_nonneg hq.2.2 (by omega)
  have key : ∀ t, win a u * sec u ≤ t → t < win a u * sec u + sec u → t ≤ 4611686018427387904 → win t u = win a u := by
    intro t h1 h2 h3
    have e : win t u = t / sec u := by unfold win; rw [hold_in t (by omega) h3]
    rw [e]
    clear e
    generalize win a u = x at *
    generalize sec u = n at *
    rcases hs with rfl | rfl | rfl | rfl | rfl <;> omega
  have keyn : win a u * sec u + sec u ≤ 4611686018427387904 → win (win a u * sec u + sec u) u = win a u + 1 := by
    intro h3
    have e : win (win a u * sec u + sec u) u = (win a u * sec u + sec u) / sec u := by
      unfold win; rw [hold_in _ _ _]
      · exact Int.add_nonneg h0 (by omega)
      · exact h3
    rw [e]
    clear e
    generalize win a u = x at *
    generalize sec u = n at *
    rcases hs with rfl | rfl | rfl | rfl | rfl <;> omega
  have hwb : win a u ≤ 4611686018427387904 := by
    have := Int.ediv_le_self (sec u) ha.1
    exact Int.le_trans this ha.2
  generalize hx : win a u = x at *
  generalize hp : x * sec u = p at *
  rw [if_neg (by omega), if_neg (by omega), if_pos (by unfold wrap64; omega), if_pos (by unfold wrap64; omega), if_neg (by omega), decide_eq_false (by omega)]
  simp only [turncocklaw15_UnitWindows.j0]
  rw [if_neg (by decide)]
  have e1 : wrap64 (p + sec u - hold a - 1) = p + sec u - hold a - 1 := by unfold wrap64; omega
  rw [e1]
  generalize hm : mx (mn on (p + sec u - hold a - 1)) 0 = m
  have hm' : 0 ≤ m ∧ m ≤ p + sec u - hold a - 1 := by
    rw [← hm]; unfold mx mn
    constructor
    all_goals (repeat' split)
    all_goals omega
  have e2 : wrap64 (hold a + m) = hold a + m := by unfold wrap64; omega
  rw [e2]
  by_cases hc : hold a + m > 4611686018427387904
  · rw [if_pos hc]
    simp only [turncocklaw15_UnitWindows.j1]
    rw [hK _ (by omega)]; rfl
  rw [if_neg hc]
  by_cases hd : p + sec u > 4611686018427387904
  · rw [decide_eq_true hd]
    simp only [turncocklaw15_UnitWindows.j1]
    rw [hK _ (by omega)]; rfl
  rw [decide_eq_false hd]
  simp only [turncocklaw15_UnitWindows.j1, e2]
  rw [if_neg (by decide), window_f, window_f, window_f, start_f, hK _ (by omega)]
  simp only [Option.bind_some]
  rw [hx, key (hold a + m) (by omega) (by omega) (by omega), keyn (by omega), if_pos rfl, if_pos (by unfold wrap64; omega), if_pos]
  rw [Int.add_mul, hp]; omega

end Go.Proofs.Ytjiaombbjmhmoaa.Pure
