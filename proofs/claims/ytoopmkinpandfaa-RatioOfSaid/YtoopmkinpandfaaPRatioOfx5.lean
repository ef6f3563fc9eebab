-- WRITTEN BY THIS SESSION'S mprint.py upon the print: some functions are proved by hand
import Derived.Test.YtoopmkinpandfaaFth
import Derived.Test.YtoopmkinpandfaaPRatioOfx0
import Derived.Test.YtoopmkinpandfaaPRatioOfx1
import Derived.Test.YtoopmkinpandfaaPRatioOfx2
import Derived.Test.YtoopmkinpandfaaPRatioOfx3
import Derived.Test.YtoopmkinpandfaaPRatioOfx4
namespace Go.Proofs.Ytoopmkinpandfaa.PRatioOf
open Go.RowKit Go.Proofs.YtoopmkinpandfaaW.PrintWords Go.Proofs.YtoopmkinpandfaaW.PrintLast Go.Proofs.YtoopmkinpandfaaW.PrintMore
attribute [local go_sem] max2_int min2_int max_two min_two max_three min_three max_four min_four   -- for this text's walks alone
set_option linter.unusedVariables false
set_option linter.unusedSimpArgs false

/-! ### turncocklaw5_awake: function 24 -/
theorem math_IsNaN.sim {z t : Nat} {r : Bool} (h : fsim z t) (e : math_IsNaN.f t = some r) : math_IsNaN.f z = some r := by
  rcases h with rfl | ⟨h1, h2⟩
  · exact e
  · unfold math_IsNaN.f at *
    rw [fne_nan h1]
    rw [fne_nan h2] at e
    exact e
theorem math_NaN.two {a b : Nat} {r : Bool} (h1 : math_NaN.f = some a) (h2 : math_NaN.f = some b) (h : ratio_Same.f a b = some r) : ratio_Same.f a a = some r := by
  have e : a = b := Option.some.inj (h1.symm.trans h2)
  rw [← e] at h; exact h
theorem ratio_Text.sim {k z t : Nat} {r : ByteArray} (h : fsim z t) (e : ratio_Text.f k t = some r) : ratio_Text.f k z = some r := by
  rcases h with rfl | ⟨h1, h2⟩
  · exact e
  · unfold ratio_Text.f math_IsNaN.f at *
    rw [fne_nan h1, Option.bind_some, if_pos rfl]
    rw [fne_nan h2, Option.bind_some, if_pos rfl] at e
    exact e
def turncocklaw5_awake.g (k : Nat)  : Option (Bool) := (ratio_Parse.f k (⟨#[45, 48]⟩ : ByteArray)).bind fun bt173 => ((ratio_Write.f k 4602678819172646912).bind fun bt175 => ((ratio_Parse.f k (⟨#[48, 49]⟩ : ByteArray)).bind fun bt177 => ((ratio_Of.f 0 0).bind fun t179 => ((math_IsNaN.f t179).bind fun t180 => (if t180 = true then ((ratio_Of.f 0 0).bind fun t181 => ((ratio_Text.f k t181).bind fun t182 => (if t182.toList = ([110, 97, 110] : List UInt8) then ((ratio_Near.f k 10 4605380978949069210).bind fun t183 => (if t183 = 8 then (if bt173.2 = true then (if (feq bt173.1 0) = true then ((math_Signbit.f bt173.1).bind fun t184 => (if t184 = true then ((ratio_Text.f k bt173.1).bind fun t185 => (if t185.toList = ([45, 48, 46, 48, 48, 48] : List UInt8) then (if bt175.1.toList = ([48, 46, 53] : List UInt8) then (if bt175.2 = true then (if bt177.2 = true then (some false) else ((ratio_Order.f bt173.1 0).bind fun t186 => (if t186 = (-1) then ((ratio_Same.f bt173.1 0).bind fun t187 => (if t187 = true then (some false) else ((math_NaN.f).bind fun t188 => ((math_NaN.f).bind fun t189 => ((ratio_Same.f t188 t189).bind fun t190 => (some t190)))))) else (some false)))) else (some false)) else (some false)) else (some false))) else (some false))) else (some false)) else (some false)) else (some false))) else (some false)))) else (some false))))))
theorem turncocklaw5_awake.gmono : ∀ k, LeO (turncocklaw5_awake.g k ) (turncocklaw5_awake.g (k + 1) ) := by
  intro  k
  unfold turncocklaw5_awake.g
  repeat' first
      | (with_reducible exact ratio_Near.mono _ _ _)
      | (with_reducible exact ratio_Parse.mono _ _)
      | (with_reducible exact ratio_Text.mono _ _)
      | (with_reducible exact ratio_Write.mono _ _)
      | (with_reducible exact LeO.refl _)
      | (with_reducible exact LeO.none _)
      | (with_reducible refine LeO.ite ?_ ?_)
      | (with_reducible refine LeO.bind ?_ (fun _ => ?_))
      | exact ratio_Near.mono _ _ _
      | exact ratio_Parse.mono _ _
      | exact ratio_Text.mono _ _
      | exact ratio_Write.mono _ _
      | exact LeO.none _
      | refine LeO.ite ?_ ?_
      | refine LeO.bind ?_ (fun _ => ?_)
set_option maxHeartbeats 8000000 in
set_option maxRecDepth 100000 in
theorem turncocklaw5_awake.gcalls (k : Nat)  (r : Bool) (w : World) (h : turncocklaw5_awake.g k  = some r) (hr_ : r = true) :
    Calls Try.prog 24 #[] w fun e w' => e = .returned (.bool r) ∧ Below w.heap.size w w' := by
  have HB := Aside0.mk (Below.refl w.heap.size w)
  have H : ((ratio_Parse.f k (⟨#[45, 48]⟩ : ByteArray)).bind fun bt173 => ((ratio_Write.f k 4602678819172646912).bind fun bt175 => ((ratio_Parse.f k (⟨#[48, 49]⟩ : ByteArray)).bind fun bt177 => ((ratio_Of.f 0 0).bind fun t179 => ((math_IsNaN.f t179).bind fun t180 => (if t180 = true then ((ratio_Of.f 0 0).bind fun t181 => ((ratio_Text.f k t181).bind fun t182 => (if t182.toList = ([110, 97, 110] : List UInt8) then ((ratio_Near.f k 10 4605380978949069210).bind fun t183 => (if t183 = 8 then (if bt173.2 = true then (if (feq bt173.1 0) = true then ((math_Signbit.f bt173.1).bind fun t184 => (if t184 = true then ((ratio_Text.f k bt173.1).bind fun t185 => (if t185.toList = ([45, 48, 46, 48, 48, 48] : List UInt8) then (if bt175.1.toList = ([48, 46, 53] : List UInt8) then (if bt175.2 = true then (if bt177.2 = true then (some false) else ((ratio_Order.f bt173.1 0).bind fun t186 => (if t186 = (-1) then ((ratio_Same.f bt173.1 0).bind fun t187 => (if t187 = true then (some false) else ((math_NaN.f).bind fun t188 => ((math_NaN.f).bind fun t189 => ((ratio_Same.f t188 t189).bind fun t190 => (some t190)))))) else (some false)))) else (some false)) else (some false)) else (some false))) else (some false))) else (some false)) else (some false)) else (some false))) else (some false)))) else (some false))))))) = some r := h
  clear h
  replace H := Option.bind_eq_some_iff.mp H
  obtain ⟨⟨t173, t174⟩, A10, H⟩ := H
  replace H : ((ratio_Write.f k 4602678819172646912).bind fun bt175 => ((ratio_Parse.f k (⟨#[48, 49]⟩ : ByteArray)).bind fun bt177 => ((ratio_Of.f 0 0).bind fun t179 => ((math_IsNaN.f t179).bind fun t180 => (if t180 = true then ((ratio_Of.f 0 0).bind fun t181 => ((ratio_Text.f k t181).bind fun t182 => (if t182.toList = ([110, 97, 110] : List UInt8) then ((ratio_Near.f k 10 4605380978949069210).bind fun t183 => (if t183 = 8 then (if t174 = true then (if (feq t173 0) = true then ((math_Signbit.f t173).bind fun t184 => (if t184 = true then ((ratio_Text.f k t173).bind fun t185 => (if t185.toList = ([45, 48, 46, 48, 48, 48] : List UInt8) then (if bt175.1.toList = ([48, 46, 53] : List UInt8) then (if bt175.2 = true then (if bt177.2 = true then (some false) else ((ratio_Order.f t173 0).bind fun t186 => (if t186 = (-1) then ((ratio_Same.f t173 0).bind fun t187 => (if t187 = true then (some false) else ((math_NaN.f).bind fun t188 => ((math_NaN.f).bind fun t189 => ((ratio_Same.f t188 t189).bind fun t190 => (some t190)))))) else (some false)))) else (some false)) else (some false)) else (some false))) else (some false))) else (some false)) else (some false)) else (some false))) else (some false)))) else (some false)))))) = some r := H
  have A1 := Aside0.mk A10
  clear A10
  replace H := Option.bind_eq_some_iff.mp H
  obtain ⟨⟨t175, t176⟩, A20, H⟩ := H
  replace H : ((ratio_Parse.f k (⟨#[48, 49]⟩ : ByteArray)).bind fun bt177 => ((ratio_Of.f 0 0).bind fun t179 => ((math_IsNaN.f t179).bind fun t180 => (if t180 = true then ((ratio_Of.f 0 0).bind fun t181 => ((ratio_Text.f k t181).bind fun t182 => (if t182.toList = ([110, 97, 110] : List UInt8) then ((ratio_Near.f k 10 4605380978949069210).bind fun t183 => (if t183 = 8 then (if t174 = true then (if (feq t173 0) = true then ((math_Signbit.f t173).bind fun t184 => (if t184 = true then ((ratio_Text.f k t173).bind fun t185 => (if t185.toList = ([45, 48, 46, 48, 48, 48] : List UInt8) then (if t175.toList = ([48, 46, 53] : List UInt8) then (if t176 = true then (if bt177.2 = true then (some false) else ((ratio_Order.f t173 0).bind fun t186 => (if t186 = (-1) then ((ratio_Same.f t173 0).bind fun t187 => (if t187 = true then (some false) else ((math_NaN.f).bind fun t188 => ((math_NaN.f).bind fun t189 => ((ratio_Same.f t188 t189).bind fun t190 => (some t190)))))) else (some false)))) else (some false)) else (some false)) else (some false))) else (some false))) else (some false)) else (some false)) else (some false))) else (some false)))) else (some false))))) = some r := H
  have A2 := Aside0.mk A20
  clear A20
  replace H := Option.bind_eq_some_iff.mp H
  obtain ⟨⟨t177, t178⟩, A30, H⟩ := H
  replace H : ((ratio_Of.f 0 0).bind fun t179 => ((math_IsNaN.f t179).bind fun t180 => (if t180 = true then ((ratio_Of.f 0 0).bind fun t181 => ((ratio_Text.f k t181).bind fun t182 => (if t182.toList = ([110, 97, 110] : List UInt8) then ((ratio_Near.f k 10 4605380978949069210).bind fun t183 => (if t183 = 8 then (if t174 = true then (if (feq t173 0) = true then ((math_Signbit.f t173).bind fun t184 => (if t184 = true then ((ratio_Text.f k t173).bind fun t185 => (if t185.toList = ([45, 48, 46, 48, 48, 48] : List UInt8) then (if t175.toList = ([48, 46, 53] : List UInt8) then (if t176 = true then (if t178 = true then (some false) else ((ratio_Order.f t173 0).bind fun t186 => (if t186 = (-1) then ((ratio_Same.f t173 0).bind fun t187 => (if t187 = true then (some false) else ((math_NaN.f).bind fun t188 => ((math_NaN.f).bind fun t189 => ((ratio_Same.f t188 t189).bind fun t190 => (some t190)))))) else (some false)))) else (some false)) else (some false)) else (some false))) else (some false))) else (some false)) else (some false)) else (some false))) else (some false)))) else (some false)))) = some r := H
  have A3 := Aside0.mk A30
  clear A30
  replace H := Option.bind_eq_some_iff.mp H
  obtain ⟨t179, A40, H⟩ := H
  replace H : ((math_IsNaN.f t179).bind fun t180 => (if t180 = true then ((ratio_Of.f 0 0).bind fun t181 => ((ratio_Text.f k t181).bind fun t182 => (if t182.toList = ([110, 97, 110] : List UInt8) then ((ratio_Near.f k 10 4605380978949069210).bind fun t183 => (if t183 = 8 then (if t174 = true then (if (feq t173 0) = true then ((math_Signbit.f t173).bind fun t184 => (if t184 = true then ((ratio_Text.f k t173).bind fun t185 => (if t185.toList = ([45, 48, 46, 48, 48, 48] : List UInt8) then (if t175.toList = ([48, 46, 53] : List UInt8) then (if t176 = true then (if t178 = true then (some false) else ((ratio_Order.f t173 0).bind fun t186 => (if t186 = (-1) then ((ratio_Same.f t173 0).bind fun t187 => (if t187 = true then (some false) else ((math_NaN.f).bind fun t188 => ((math_NaN.f).bind fun t189 => ((ratio_Same.f t188 t189).bind fun t190 => (some t190)))))) else (some false)))) else (some false)) else (some false)) else (some false))) else (some false))) else (some false)) else (some false)) else (some false))) else (some false)))) else (some false))) = some r := H
  have A4 := Aside0.mk A40
  clear A40
  replace H := Option.bind_eq_some_iff.mp H
  obtain ⟨t180, A50, H⟩ := H
  replace H : (if t180 = true then ((ratio_Of.f 0 0).bind fun t181 => ((ratio_Text.f k t181).bind fun t182 => (if t182.toList = ([110, 97, 110] : List UInt8) then ((ratio_Near.f k 10 4605380978949069210).bind fun t183 => (if t183 = 8 then (if t174 = true then (if (feq t173 0) = true then ((math_Signbit.f t173).bind fun t184 => (if t184 = true then ((ratio_Text.f k t173).bind fun t185 => (if t185.toList = ([45, 48, 46, 48, 48, 48] : List UInt8) then (if t175.toList = ([48, 46, 53] : List UInt8) then (if t176 = true then (if t178 = true then (some false) else ((ratio_Order.f t173 0).bind fun t186 => (if t186 = (-1) then ((ratio_Same.f t173 0).bind fun t187 => (if t187 = true then (some false) else ((math_NaN.f).bind fun t188 => ((math_NaN.f).bind fun t189 => ((ratio_Same.f t188 t189).bind fun t190 => (some t190)))))) else (some false)))) else (some false)) else (some false)) else (some false))) else (some false))) else (some false)) else (some false)) else (some false))) else (some false)))) else (some false)) = some r := H
  have A5 := Aside0.mk A50
  clear A50
  by_cases c6 : t180 = true
  · subst c6
    have H1 : ((ratio_Of.f 0 0).bind fun t181 => ((ratio_Text.f k t181).bind fun t182 => (if t182.toList = ([110, 97, 110] : List UInt8) then ((ratio_Near.f k 10 4605380978949069210).bind fun t183 => (if t183 = 8 then (if t174 = true then (if (feq t173 0) = true then ((math_Signbit.f t173).bind fun t184 => (if t184 = true then ((ratio_Text.f k t173).bind fun t185 => (if t185.toList = ([45, 48, 46, 48, 48, 48] : List UInt8) then (if t175.toList = ([48, 46, 53] : List UInt8) then (if t176 = true then (if t178 = true then (some false) else ((ratio_Order.f t173 0).bind fun t186 => (if t186 = (-1) then ((ratio_Same.f t173 0).bind fun t187 => (if t187 = true then (some false) else ((math_NaN.f).bind fun t188 => ((math_NaN.f).bind fun t189 => ((ratio_Same.f t188 t189).bind fun t190 => (some t190)))))) else (some false)))) else (some false)) else (some false)) else (some false))) else (some false))) else (some false)) else (some false)) else (some false))) else (some false)))) = some r := by rw [if_pos rfl] at H; exact H
    clear H
    have H := H1
    clear H1
    replace H := Option.bind_eq_some_iff.mp H
    obtain ⟨t181, A70, H⟩ := H
    replace H : ((ratio_Text.f k t181).bind fun t182 => (if t182.toList = ([110, 97, 110] : List UInt8) then ((ratio_Near.f k 10 4605380978949069210).bind fun t183 => (if t183 = 8 then (if t174 = true then (if (feq t173 0) = true then ((math_Signbit.f t173).bind fun t184 => (if t184 = true then ((ratio_Text.f k t173).bind fun t185 => (if t185.toList = ([45, 48, 46, 48, 48, 48] : List UInt8) then (if t175.toList = ([48, 46, 53] : List UInt8) then (if t176 = true then (if t178 = true then (some false) else ((ratio_Order.f t173 0).bind fun t186 => (if t186 = (-1) then ((ratio_Same.f t173 0).bind fun t187 => (if t187 = true then (some false) else ((math_NaN.f).bind fun t188 => ((math_NaN.f).bind fun t189 => ((ratio_Same.f t188 t189).bind fun t190 => (some t190)))))) else (some false)))) else (some false)) else (some false)) else (some false))) else (some false))) else (some false)) else (some false)) else (some false))) else (some false))) = some r := H
    have A7 := Aside0.mk A70
    clear A70
    replace H := Option.bind_eq_some_iff.mp H
    obtain ⟨t182, A80, H⟩ := H
    replace H : (if t182.toList = ([110, 97, 110] : List UInt8) then ((ratio_Near.f k 10 4605380978949069210).bind fun t183 => (if t183 = 8 then (if t174 = true then (if (feq t173 0) = true then ((math_Signbit.f t173).bind fun t184 => (if t184 = true then ((ratio_Text.f k t173).bind fun t185 => (if t185.toList = ([45, 48, 46, 48, 48, 48] : List UInt8) then (if t175.toList = ([48, 46, 53] : List UInt8) then (if t176 = true then (if t178 = true then (some false) else ((ratio_Order.f t173 0).bind fun t186 => (if t186 = (-1) then ((ratio_Same.f t173 0).bind fun t187 => (if t187 = true then (some false) else ((math_NaN.f).bind fun t188 => ((math_NaN.f).bind fun t189 => ((ratio_Same.f t188 t189).bind fun t190 => (some t190)))))) else (some false)))) else (some false)) else (some false)) else (some false))) else (some false))) else (some false)) else (some false)) else (some false))) else (some false)) = some r := H
    have A8 := Aside0.mk A80
    clear A80
    by_cases c9 : t182.toList = ([110, 97, 110] : List UInt8)
    · rw [if_pos c9] at H
      have c9b0 : (t182.toList == ([110, 97, 110] : List UInt8)) = true := beq_iff_eq.mpr c9
      have c9b1 : (t182.toList != ([110, 97, 110] : List UInt8)) = false := bne_eq_false_iff_eq.mpr c9
      clear c9
      replace H := Option.bind_eq_some_iff.mp H
      obtain ⟨t183, A100, H⟩ := H
      replace H : (if t183 = 8 then (if t174 = true then (if (feq t173 0) = true then ((math_Signbit.f t173).bind fun t184 => (if t184 = true then ((ratio_Text.f k t173).bind fun t185 => (if t185.toList = ([45, 48, 46, 48, 48, 48] : List UInt8) then (if t175.toList = ([48, 46, 53] : List UInt8) then (if t176 = true then (if t178 = true then (some false) else ((ratio_Order.f t173 0).bind fun t186 => (if t186 = (-1) then ((ratio_Same.f t173 0).bind fun t187 => (if t187 = true then (some false) else ((math_NaN.f).bind fun t188 => ((math_NaN.f).bind fun t189 => ((ratio_Same.f t188 t189).bind fun t190 => (some t190)))))) else (some false)))) else (some false)) else (some false)) else (some false))) else (some false))) else (some false)) else (some false)) else (some false)) = some r := H
      have A10 := Aside0.mk A100
      clear A100
      by_cases c11 : t183 = 8
      · rw [if_pos c11] at H
        have c11b0 : (t183 == 8) = true := beq_iff_eq.mpr c11
        have c11b1 : (t183 != 8) = false := bne_eq_false_iff_eq.mpr c11
        clear c11
        by_cases c12 : t174 = true
        · subst c12
          have H1 : (if (feq t173 0) = true then ((math_Signbit.f t173).bind fun t184 => (if t184 = true then ((ratio_Text.f k t173).bind fun t185 => (if t185.toList = ([45, 48, 46, 48, 48, 48] : List UInt8) then (if t175.toList = ([48, 46, 53] : List UInt8) then (if t176 = true then (if t178 = true then (some false) else ((ratio_Order.f t173 0).bind fun t186 => (if t186 = (-1) then ((ratio_Same.f t173 0).bind fun t187 => (if t187 = true then (some false) else ((math_NaN.f).bind fun t188 => ((math_NaN.f).bind fun t189 => ((ratio_Same.f t188 t189).bind fun t190 => (some t190)))))) else (some false)))) else (some false)) else (some false)) else (some false))) else (some false))) else (some false)) = some r := by rw [if_pos rfl] at H; exact H
          clear H
          have H := H1
          clear H1
          by_cases c13 : (feq t173 0) = true
          · rw [if_pos c13] at H
            have c13b0 : (feq t173 0) = true := c13
            clear c13
            replace H := Option.bind_eq_some_iff.mp H
            obtain ⟨t184, A140, H⟩ := H
            replace H : (if t184 = true then ((ratio_Text.f k t173).bind fun t185 => (if t185.toList = ([45, 48, 46, 48, 48, 48] : List UInt8) then (if t175.toList = ([48, 46, 53] : List UInt8) then (if t176 = true then (if t178 = true then (some false) else ((ratio_Order.f t173 0).bind fun t186 => (if t186 = (-1) then ((ratio_Same.f t173 0).bind fun t187 => (if t187 = true then (some false) else ((math_NaN.f).bind fun t188 => ((math_NaN.f).bind fun t189 => ((ratio_Same.f t188 t189).bind fun t190 => (some t190)))))) else (some false)))) else (some false)) else (some false)) else (some false))) else (some false)) = some r := H
            have A14 := Aside0.mk A140
            clear A140
            by_cases c15 : t184 = true
            · subst c15
              have H1 : ((ratio_Text.f k t173).bind fun t185 => (if t185.toList = ([45, 48, 46, 48, 48, 48] : List UInt8) then (if t175.toList = ([48, 46, 53] : List UInt8) then (if t176 = true then (if t178 = true then (some false) else ((ratio_Order.f t173 0).bind fun t186 => (if t186 = (-1) then ((ratio_Same.f t173 0).bind fun t187 => (if t187 = true then (some false) else ((math_NaN.f).bind fun t188 => ((math_NaN.f).bind fun t189 => ((ratio_Same.f t188 t189).bind fun t190 => (some t190)))))) else (some false)))) else (some false)) else (some false)) else (some false))) = some r := by rw [if_pos rfl] at H; exact H
              clear H
              have H := H1
              clear H1
              replace H := Option.bind_eq_some_iff.mp H
              obtain ⟨t185, A160, H⟩ := H
              replace H : (if t185.toList = ([45, 48, 46, 48, 48, 48] : List UInt8) then (if t175.toList = ([48, 46, 53] : List UInt8) then (if t176 = true then (if t178 = true then (some false) else ((ratio_Order.f t173 0).bind fun t186 => (if t186 = (-1) then ((ratio_Same.f t173 0).bind fun t187 => (if t187 = true then (some false) else ((math_NaN.f).bind fun t188 => ((math_NaN.f).bind fun t189 => ((ratio_Same.f t188 t189).bind fun t190 => (some t190)))))) else (some false)))) else (some false)) else (some false)) else (some false)) = some r := H
              have A16 := Aside0.mk A160
              clear A160
              by_cases c17 : t185.toList = ([45, 48, 46, 48, 48, 48] : List UInt8)
              · rw [if_pos c17] at H
                have c17b0 : (t185.toList == ([45, 48, 46, 48, 48, 48] : List UInt8)) = true := beq_iff_eq.mpr c17
                have c17b1 : (t185.toList != ([45, 48, 46, 48, 48, 48] : List UInt8)) = false := bne_eq_false_iff_eq.mpr c17
                clear c17
                by_cases c18 : t175.toList = ([48, 46, 53] : List UInt8)
                · rw [if_pos c18] at H
                  have c18b0 : (t175.toList == ([48, 46, 53] : List UInt8)) = true := beq_iff_eq.mpr c18
                  have c18b1 : (t175.toList != ([48, 46, 53] : List UInt8)) = false := bne_eq_false_iff_eq.mpr c18
                  clear c18
                  by_cases c19 : t176 = true
                  · subst c19
                    have H1 : (if t178 = true then (some false) else ((ratio_Order.f t173 0).bind fun t186 => (if t186 = (-1) then ((ratio_Same.f t173 0).bind fun t187 => (if t187 = true then (some false) else ((math_NaN.f).bind fun t188 => ((math_NaN.f).bind fun t189 => ((ratio_Same.f t188 t189).bind fun t190 => (some t190)))))) else (some false)))) = some r := by rw [if_pos rfl] at H; exact H
                    clear H
                    have H := H1
                    clear H1
                    by_cases c20 : t178 = true
                    · subst c20
                      have H1 : (some false) = some r := by rw [if_pos rfl] at H; exact H
                      clear H
                      have H := H1
                      clear H1
                      exact absurd ((Option.some.inj H).trans hr_) (by decide)
                    · replace c20 := Bool.eq_false_iff.mpr c20
                      subst c20
                      have H1 : ((ratio_Order.f t173 0).bind fun t186 => (if t186 = (-1) then ((ratio_Same.f t173 0).bind fun t187 => (if t187 = true then (some false) else ((math_NaN.f).bind fun t188 => ((math_NaN.f).bind fun t189 => ((ratio_Same.f t188 t189).bind fun t190 => (some t190)))))) else (some false))) = some r := by rw [if_neg (show ¬ (false = true) by decide)] at H; exact H
                      clear H
                      have H := H1
                      clear H1
                      replace H := Option.bind_eq_some_iff.mp H
                      obtain ⟨t186, A270, H⟩ := H
                      replace H : (if t186 = (-1) then ((ratio_Same.f t173 0).bind fun t187 => (if t187 = true then (some false) else ((math_NaN.f).bind fun t188 => ((math_NaN.f).bind fun t189 => ((ratio_Same.f t188 t189).bind fun t190 => (some t190)))))) else (some false)) = some r := H
                      have A27 := Aside0.mk A270
                      clear A270
                      by_cases c28 : t186 = (-1)
                      · rw [if_pos c28] at H
                        have c28b0 : (t186 == (-1)) = true := beq_iff_eq.mpr c28
                        have c28b1 : (t186 != (-1)) = false := bne_eq_false_iff_eq.mpr c28
                        clear c28
                        replace H := Option.bind_eq_some_iff.mp H
                        obtain ⟨t187, A290, H⟩ := H
                        replace H : (if t187 = true then (some false) else ((math_NaN.f).bind fun t188 => ((math_NaN.f).bind fun t189 => ((ratio_Same.f t188 t189).bind fun t190 => (some t190))))) = some r := H
                        have A29 := Aside0.mk A290
                        clear A290
                        by_cases c30 : t187 = true
                        · subst c30
                          have H1 : (some false) = some r := by rw [if_pos rfl] at H; exact H
                          clear H
                          have H := H1
                          clear H1
                          exact absurd ((Option.some.inj H).trans hr_) (by decide)
                        · replace c30 := Bool.eq_false_iff.mpr c30
                          subst c30
                          have H1 : ((math_NaN.f).bind fun t188 => ((math_NaN.f).bind fun t189 => ((ratio_Same.f t188 t189).bind fun t190 => (some t190)))) = some r := by rw [if_neg (show ¬ (false = true) by decide)] at H; exact H
                          clear H
                          have H := H1
                          clear H1
                          replace H := Option.bind_eq_some_iff.mp H
                          obtain ⟨t188, A370, H⟩ := H
                          replace H : ((math_NaN.f).bind fun t189 => ((ratio_Same.f t188 t189).bind fun t190 => (some t190))) = some r := H
                          have A37 := Aside0.mk A370
                          clear A370
                          replace H := Option.bind_eq_some_iff.mp H
                          obtain ⟨t189, A380, H⟩ := H
                          replace H : ((ratio_Same.f t188 t189).bind fun t190 => (some t190)) = some r := H
                          have A38 := Aside0.mk A380
                          clear A380
                          replace H := Option.bind_eq_some_iff.mp H
                          obtain ⟨t190, A390, H⟩ := H
                          replace H : (some t190) = some r := H
                          have A39 := Aside0.mk A390
                          clear A390
                          first
                            | exact absurd ((Option.some.inj H).trans hr_) (by decide)
                            | (obtain rfl := Option.some.inj H
                               clear hr_
                               go_enter Try.func24, Try.ntmps24
                               go_wp2_with (first | ((with_reducible refine gate_callee (f := 34) rfl ?_); refine goesL_ (some 8) rfl rfl Try.func34 (by kernel_rfl) rfl #[.string (⟨#[45, 48]⟩ : ByteArray)] rfl (by (try simp only [List.map_toArray, List.map_cons, List.map_nil]); first | done | rfl | (simp only [List.length_drop, List.length_take]; rfl)) ?_; (with_reducible refine (ratio_Parse.calls k (⟨#[45, 48]⟩ : ByteArray) t173 true _ A1.out).mono ?_); rintro e w40 ⟨rfl, hb⟩; refine ⟨_, rfl, ?_⟩; have n0_ := Aside0.mk (below_step (by repeat (first | (with_reducible first | exact HB.out | apply below_alloc | apply pw_below_drewN | apply below_drew1) | exact HB.out)) hb); clear HB; have HB := n0_; clear n0_; (try clear hb); (try clear hb2); (try clear hk); (try clear hi)) | ((with_reducible refine gate_callee (f := 35) rfl ?_); refine goesL_ (some 12) rfl rfl Try.func35 (by kernel_rfl) rfl #[.float .f64 4602678819172646912] rfl (by (try simp only [List.map_toArray, List.map_cons, List.map_nil]); first | done | rfl | (simp only [List.length_drop, List.length_take]; rfl)) ?_; (with_reducible refine (ratio_Write.calls k 4602678819172646912 t175 true _ A2.out).mono ?_); rintro e w41 ⟨rfl, hb⟩; refine ⟨_, rfl, ?_⟩; have n0_ := Aside0.mk (below_step (by repeat (first | (with_reducible first | exact HB.out | apply below_alloc | apply pw_below_drewN | apply below_drew1) | exact HB.out)) hb); clear HB; have HB := n0_; clear n0_; (try clear hb); (try clear hb2); (try clear hk); (try clear hi)) | ((with_reducible refine gate_callee (f := 34) rfl ?_); refine goesL_ (some 16) rfl rfl Try.func34 (by kernel_rfl) rfl #[.string (⟨#[48, 49]⟩ : ByteArray)] rfl (by (try simp only [List.map_toArray, List.map_cons, List.map_nil]); first | done | rfl | (simp only [List.length_drop, List.length_take]; rfl)) ?_; (with_reducible refine (ratio_Parse.calls k (⟨#[48, 49]⟩ : ByteArray) t177 false _ A3.out).mono ?_); rintro e w42 ⟨rfl, hb⟩; refine ⟨_, rfl, ?_⟩; have n0_ := Aside0.mk (below_step (by repeat (first | (with_reducible first | exact HB.out | apply below_alloc | apply pw_below_drewN | apply below_drew1) | exact HB.out)) hb); clear HB; have HB := n0_; clear n0_; (try clear hb); (try clear hb2); (try clear hk); (try clear hi)) | ((with_reducible refine gate_callee (f := 21) rfl ?_); refine goesL_ (some 19) rfl rfl Try.func21 (by kernel_rfl) rfl #[.int .i64 0, .int .i64 0] rfl (by (try simp only [List.map_toArray, List.map_cons, List.map_nil]); first | done | rfl | (simp only [List.length_drop, List.length_take]; rfl)) ?_; (with_reducible refine (ratio_Of.calls 0 0 t179 _ A4.out).mono ?_); rintro e w' ⟨zt179, hsz_t1790, rfl, ⟨nd, rfl⟩⟩; have hsz_t179 := Aside0.mk hsz_t1790; clear hsz_t1790; refine ⟨_, rfl, ?_⟩) | ((with_reducible refine gate_callee (f := 23) rfl ?_); refine goesL_ (some 20) rfl rfl Try.func23 (by kernel_rfl) rfl #[.float .f64 zt179] rfl (by (try simp only [List.map_toArray, List.map_cons, List.map_nil]); first | done | rfl | (simp only [List.length_drop, List.length_take]; rfl)) ?_; (with_reducible refine (math_IsNaN.calls zt179 true _ (math_IsNaN.sim hsz_t179.out A5.out)).mono ?_); rintro e w' ⟨rfl, ⟨nd, rfl⟩⟩; refine ⟨_, rfl, ?_⟩) | (go_at_call 21; (with_reducible refine (ratio_Of.calls 0 0 t181 _ A7.out).mono ?_); rintro e w' ⟨zt181, hsz_t1810, rfl, ⟨nd, rfl⟩⟩; have hsz_t181 := Aside0.mk hsz_t1810; clear hsz_t1810) | (go_at_call 37; (with_reducible refine (ratio_Text.calls k zt181 t182 _ (ratio_Text.sim hsz_t181.out A8.out)).mono ?_); rintro e w43 ⟨rfl, hb⟩; have n0_ := Aside0.mk (below_step (by repeat (first | (with_reducible first | exact HB.out | apply below_alloc | apply pw_below_drewN | apply below_drew1) | exact HB.out)) hb); clear HB; have HB := n0_; clear n0_; (try clear hb); (try clear hb2); (try clear hk); (try clear hi)) | (go_at_call 32; (with_reducible refine (ratio_Near.calls k 10 4605380978949069210 t183 _ A10.out).mono ?_); rintro e w44 ⟨rfl, hb⟩; have n0_ := Aside0.mk (below_step (by repeat (first | (with_reducible first | exact HB.out | apply below_alloc | apply pw_below_drewN | apply below_drew1) | exact HB.out)) hb); clear HB; have HB := n0_; clear n0_; (try clear hb); (try clear hb2); (try clear hk); (try clear hi)) | (go_at_call 26; (with_reducible refine (math_Signbit.calls t173 true _ A14.out).mono ?_); rintro e w' ⟨rfl, ⟨nd, rfl⟩⟩) | (go_at_call 37; (with_reducible refine (ratio_Text.calls k t173 t185 _ A16.out).mono ?_); rintro e w45 ⟨rfl, hb⟩; have n0_ := Aside0.mk (below_step (by repeat (first | (with_reducible first | exact HB.out | apply below_alloc | apply pw_below_drewN | apply below_drew1) | exact HB.out)) hb); clear HB; have HB := n0_; clear n0_; (try clear hb); (try clear hb2); (try clear hk); (try clear hi)) | (go_at_call 28; (with_reducible refine (ratio_Order.calls t173 0 t186 _ A27.out).mono ?_); rintro e w' ⟨rfl, ⟨nd, rfl⟩⟩) | (go_at_call 30; (with_reducible refine (ratio_Same.calls t173 0 false _ A29.out).mono ?_); rintro e w' ⟨rfl, ⟨nd, rfl⟩⟩) | (go_at_call 33; (with_reducible refine (math_NaN.calls  t188 _ A37.out).mono ?_); rintro e w' ⟨rfl, ⟨nd, rfl⟩⟩) | (go_at_call 33; (with_reducible refine (math_NaN.calls  t189 _ A38.out).mono ?_); rintro e w' ⟨rfl, ⟨nd, rfl⟩⟩) | (go_at_call 30; (with_reducible refine (ratio_Same.calls t188 t188 t190 _ (math_NaN.two A37.out A38.out A39.out)).mono ?_); rintro e w' ⟨rfl, ⟨nd, rfl⟩⟩))
                               go_ret
                               exact ⟨by first | rfl | (simp [errW_none, errW_some] <;> rfl) | (simp [*, errW_none, errW_some] <;> rfl), by repeat (first | (with_reducible first | exact HB.out | apply below_alloc | apply pw_below_drewN | apply below_drew1) | exact HB.out)⟩)
                      · rw [if_neg c28] at H
                        have c28b0 : (t186 == (-1)) = false := beq_eq_false_iff_ne.mpr c28
                        have c28b1 : (t186 != (-1)) = true := bne_iff_ne.mpr c28
                        exact absurd ((Option.some.inj H).trans hr_) (by decide)
                  · replace c19 := Bool.eq_false_iff.mpr c19
                    subst c19
                    have H1 : (some false) = some r := by rw [if_neg (show ¬ (false = true) by decide)] at H; exact H
                    clear H
                    have H := H1
                    clear H1
                    exact absurd ((Option.some.inj H).trans hr_) (by decide)
                · rw [if_neg c18] at H
                  have c18b0 : (t175.toList == ([48, 46, 53] : List UInt8)) = false := beq_eq_false_iff_ne.mpr c18
                  have c18b1 : (t175.toList != ([48, 46, 53] : List UInt8)) = true := bne_iff_ne.mpr c18
                  exact absurd ((Option.some.inj H).trans hr_) (by decide)
              · rw [if_neg c17] at H
                have c17b0 : (t185.toList == ([45, 48, 46, 48, 48, 48] : List UInt8)) = false := beq_eq_false_iff_ne.mpr c17
                have c17b1 : (t185.toList != ([45, 48, 46, 48, 48, 48] : List UInt8)) = true := bne_iff_ne.mpr c17
                exact absurd ((Option.some.inj H).trans hr_) (by decide)
            · replace c15 := Bool.eq_false_iff.mpr c15
              subst c15
              have H1 : (some false) = some r := by rw [if_neg (show ¬ (false = true) by decide)] at H; exact H
              clear H
              have H := H1
              clear H1
              exact absurd ((Option.some.inj H).trans hr_) (by decide)
          · rw [if_neg c13] at H
            have c13b0 : (feq t173 0) = false := by simpa using c13
            clear c13
            exact absurd ((Option.some.inj H).trans hr_) (by decide)
        · replace c12 := Bool.eq_false_iff.mpr c12
          subst c12
          have H1 : (some false) = some r := by rw [if_neg (show ¬ (false = true) by decide)] at H; exact H
          clear H
          have H := H1
          clear H1
          exact absurd ((Option.some.inj H).trans hr_) (by decide)
      · rw [if_neg c11] at H
        have c11b0 : (t183 == 8) = false := beq_eq_false_iff_ne.mpr c11
        have c11b1 : (t183 != 8) = true := bne_iff_ne.mpr c11
        exact absurd ((Option.some.inj H).trans hr_) (by decide)
    · rw [if_neg c9] at H
      have c9b0 : (t182.toList == ([110, 97, 110] : List UInt8)) = false := beq_eq_false_iff_ne.mpr c9
      have c9b1 : (t182.toList != ([110, 97, 110] : List UInt8)) = true := bne_iff_ne.mpr c9
      exact absurd ((Option.some.inj H).trans hr_) (by decide)
  · replace c6 := Bool.eq_false_iff.mpr c6
    subst c6
    have H1 : (some false) = some r := by rw [if_neg (show ¬ (false = true) by decide)] at H; exact H
    clear H
    have H := H1
    clear H1
    exact absurd ((Option.some.inj H).trans hr_) (by decide)
def turncocklaw5_awake.f (k : Nat) : Option (Bool) := if turncocklaw5_awake.g k = some true then some true else none
theorem turncocklaw5_awake.mono : ∀ k, LeO (turncocklaw5_awake.f k ) (turncocklaw5_awake.f (k + 1) ) := by
  intro k r h
  unfold turncocklaw5_awake.f at h ⊢
  split at h
  · rename_i hg; rw [if_pos (turncocklaw5_awake.gmono k _ hg)]; exact h
  · cases h
theorem turncocklaw5_awake.calls (k : Nat) (r : Bool) (w : World) (h : turncocklaw5_awake.f k = some r) :
    Calls Try.prog 24 #[] w fun e w' => e = .returned (.bool r) ∧ Below w.heap.size w w' := by
  unfold turncocklaw5_awake.f at h
  split at h
  · rename_i hg; obtain rfl := Option.some.inj h; exact turncocklaw5_awake.gcalls k true w hg rfl
  · cases h

/-! ### turncocklaw5_RatioOf: function 6 -/
def turncocklaw5_RatioOf.j0 : Nat → Int → Int → Nat → Bool → Option (Bool)
  | 0, _, _, _, _ => none
  | k + 1, x0, x1, x5, x15 => if x15 = true then ((math_IsNaN.f x5).bind fun t194 => (if t194 = true then ((turncocklaw5_awake.f k).bind fun t195 => (some t195)) else (some false))) else (if x1 = 0 then ((math_IsInf.f x5 0).bind fun t196 => (if t196 = true then ((math_Signbit.f x5).bind fun t197 => (if (t197 == (decide (x0 < 0))) = true then ((turncocklaw5_awake.f k).bind fun t198 => (some t198)) else (some false))) else (some false))) else ((math_Signbit.f x5).bind fun t199 => (if (t199 == ((decide (x0 < 0)) != (decide (x1 < 0)))) = true then (if ((feq x5 0) == (x0 == 0)) = true then ((turncocklaw5_awake.f k).bind fun t200 => (some t200)) else (some false)) else (some false))))
def turncocklaw5_RatioOf.f (k : Nat) (a0 : Int) (a1 : Int) : Option (Bool) := (ratio_Of.f a0 a1).bind fun t191 => ((turncockref1_Of.f a0 a1).bind fun t192 => ((turncockref1_Alike.f k t191 t192).bind fun t193 => (if t193 = true then (if a1 = 0 then (turncocklaw5_RatioOf.j0 k a0 a1 t191 (a0 == 0)) else (turncocklaw5_RatioOf.j0 k a0 a1 t191 false)) else (some false))))
theorem turncocklaw5_RatioOf.mono_l : ∀ k, (∀ y0 y1 y2 y3, LeO (turncocklaw5_RatioOf.j0 k y0 y1 y2 y3) (turncocklaw5_RatioOf.j0 (k + 1) y0 y1 y2 y3))
  | 0 => fun _ _ _ _ r h => by simp [turncocklaw5_RatioOf.j0] at h
  | k + 1 => by
    have ih0 := turncocklaw5_RatioOf.mono_l k
    · intro y0 y1 y2 y3
      unfold turncocklaw5_RatioOf.j0
      repeat' first
      | (with_reducible exact ih0 _ _ _ _)
      | (with_reducible exact turncocklaw5_awake.mono _)
      | (with_reducible exact turncockref1_Alike.mono _ _ _)
      | (with_reducible exact LeO.refl _)
      | (with_reducible exact LeO.none _)
      | (with_reducible refine LeO.ite ?_ ?_)
      | (with_reducible refine LeO.bind ?_ (fun _ => ?_))
      | exact ih0 _ _ _ _
      | exact turncocklaw5_awake.mono _
      | exact turncockref1_Alike.mono _ _ _
      | exact LeO.none _
      | refine LeO.ite ?_ ?_
      | refine LeO.bind ?_ (fun _ => ?_)
theorem turncocklaw5_RatioOf.mono : ∀ a0 a1 k, LeO (turncocklaw5_RatioOf.f k a0 a1) (turncocklaw5_RatioOf.f (k + 1) a0 a1) := by
  intro a0 a1 k
  have ih0 := turncocklaw5_RatioOf.mono_l k
  unfold turncocklaw5_RatioOf.f
  repeat' first
      | (with_reducible exact ih0 _ _ _ _)
      | (with_reducible exact turncocklaw5_awake.mono _)
      | (with_reducible exact turncockref1_Alike.mono _ _ _)
      | (with_reducible exact LeO.refl _)
      | (with_reducible exact LeO.none _)
      | (with_reducible refine LeO.ite ?_ ?_)
      | (with_reducible refine LeO.bind ?_ (fun _ => ?_))
      | exact ih0 _ _ _ _
      | exact turncocklaw5_awake.mono _
      | exact turncockref1_Alike.mono _ _ _
      | exact LeO.none _
      | refine LeO.ite ?_ ?_
      | refine LeO.bind ?_ (fun _ => ?_)
set_option maxHeartbeats 8000000 in
set_option maxRecDepth 100000 in
theorem turncocklaw5_RatioOf.calls_ok (k : Nat) (a0 : Int) (a1 : Int) (r : Bool) (w : World) (h : turncocklaw5_RatioOf.f k a0 a1 = some r) (hr_ : r = true) (hq0_ : fquoOk (fofi a0) (fofi a1) = true) :
    Calls Try.prog 6 #[.int .i64 a0, .int .i64 a1] w fun e w' => e = .returned (.bool r) ∧ Below w.heap.size w w' := by
  have HB := Aside0.mk (Below.refl w.heap.size w)
  have hq_ := Aside0.mk hq0_
  clear hq0_
  have H : ((ratio_Of.f a0 a1).bind fun t191 => ((turncockref1_Of.f a0 a1).bind fun t192 => ((turncockref1_Alike.f k t191 t192).bind fun t193 => (if t193 = true then (if a1 = 0 then (turncocklaw5_RatioOf.j0 k a0 a1 t191 (a0 == 0)) else (turncocklaw5_RatioOf.j0 k a0 a1 t191 false)) else (some false))))) = some r := h
  clear h
  replace H := Option.bind_eq_some_iff.mp H
  obtain ⟨t191, A30, H⟩ := H
  replace H : ((turncockref1_Of.f a0 a1).bind fun t192 => ((turncockref1_Alike.f k t191 t192).bind fun t193 => (if t193 = true then (if a1 = 0 then (turncocklaw5_RatioOf.j0 k a0 a1 t191 (a0 == 0)) else (turncocklaw5_RatioOf.j0 k a0 a1 t191 false)) else (some false)))) = some r := H
  have A3 := Aside0.mk A30
  clear A30
  replace H := Option.bind_eq_some_iff.mp H
  obtain ⟨t192, A40, H⟩ := H
  replace H : ((turncockref1_Alike.f k t191 t192).bind fun t193 => (if t193 = true then (if a1 = 0 then (turncocklaw5_RatioOf.j0 k a0 a1 t191 (a0 == 0)) else (turncocklaw5_RatioOf.j0 k a0 a1 t191 false)) else (some false))) = some r := H
  have A4 := Aside0.mk A40
  clear A40
  replace H := Option.bind_eq_some_iff.mp H
  obtain ⟨t193, A50, H⟩ := H
  replace H : (if t193 = true then (if a1 = 0 then (turncocklaw5_RatioOf.j0 k a0 a1 t191 (a0 == 0)) else (turncocklaw5_RatioOf.j0 k a0 a1 t191 false)) else (some false)) = some r := H
  have A5 := Aside0.mk A50
  clear A50
  by_cases c6 : t193 = true
  · subst c6
    have H1 : (if a1 = 0 then (turncocklaw5_RatioOf.j0 k a0 a1 t191 (a0 == 0)) else (turncocklaw5_RatioOf.j0 k a0 a1 t191 false)) = some r := by rw [if_pos rfl] at H; exact H
    clear H
    have H := H1
    clear H1
    have HC7 := Aside0.mk H
    clear H
    go_enter Try.func6, Try.ntmps6
    go_upto_region 4 with (first | ((with_reducible refine gate_callee (f := 21) rfl ?_); refine goesL_ (some 8) rfl rfl Try.func21 (by kernel_rfl) rfl #[.int .i64 a0, .int .i64 a1] rfl (by (try simp only [List.map_toArray, List.map_cons, List.map_nil]); first | done | rfl | (simp only [List.length_drop, List.length_take]; rfl)) ?_; (with_reducible refine (ratio_Of.calls_ok a0 a1 t191 _ hq_.out A3.out).mono ?_); rintro e w' ⟨rfl, ⟨nd, rfl⟩⟩; refine ⟨_, rfl, ?_⟩) | ((with_reducible refine gate_callee (f := 20) rfl ?_); refine goesL_ (some 12) rfl rfl Try.func20 (by kernel_rfl) rfl #[.int .i64 a0, .int .i64 a1] rfl (by (try simp only [List.map_toArray, List.map_cons, List.map_nil]); first | done | rfl | (simp only [List.length_drop, List.length_take]; rfl)) ?_; (with_reducible refine (turncockref1_Of.calls_ok a0 a1 t192 _ hq_.out A4.out).mono ?_); rintro e w' ⟨rfl, ⟨nd, rfl⟩⟩; refine ⟨_, rfl, ?_⟩) | ((with_reducible refine gate_callee (f := 22) rfl ?_); refine goesL_ (some 13) rfl rfl Try.func22 (by kernel_rfl) rfl #[.float .f64 t191, .float .f64 t192] rfl (by (try simp only [List.map_toArray, List.map_cons, List.map_nil]); first | done | rfl | (simp only [List.length_drop, List.length_take]; rfl)) ?_; (with_reducible refine (turncockref1_Alike.calls k t191 t192 true _ A5.out).mono ?_); rintro e w' ⟨rfl, ⟨nd, rfl⟩⟩; refine ⟨_, rfl, ?_⟩))
    (try simp only [Act.put, List.setIfInBounds_toArray, List.set_cons_zero, List.set_cons_succ])
    go_cut [15] (fun v15 wc => ∃ (kq : Nat) (x15_6 : Bool), v15 = .bool x15_6 ∧ Aside0 (turncocklaw5_RatioOf.j0 kq a0 a1 t191 x15_6 = some r) ∧ Aside0 (kq ≤ k) ∧ Aside0 (Below w.heap.size w wc))
    case first =>
      have H := HC7.out
      clear HC7
      by_cases c8 : a1 = 0
      · rw [if_pos c8] at H
        have c8b0 : (a1 == 0) = true := beq_iff_eq.mpr c8
        have c8b1 : (a1 != 0) = false := bne_eq_false_iff_eq.mpr c8
        clear c8
        (first | rw [c8b0] | (simp only [i64_w, i32_w]; rw [c8b0]) | skip)
        have H' := Aside0.mk H
        clear H
        go_wp2
        go_meet
        case rel => exact ⟨_, ((a0 == 0)), (by first | rfl | (simp; done) | (simp [*]; done)), H', ⟨by first | omega | exact Nat.le_refl _⟩, ⟨by repeat (first | (with_reducible first | exact HB.out | apply below_alloc | apply pw_below_drewN | apply below_drew1) | exact HB.out)⟩⟩
      · rw [if_neg c8] at H
        have c8b0 : (a1 == 0) = false := beq_eq_false_iff_ne.mpr c8
        have c8b1 : (a1 != 0) = true := bne_iff_ne.mpr c8
        (first | rw [c8b0] | (simp only [i64_w, i32_w]; rw [c8b0]) | skip)
        have H' := Aside0.mk H
        clear H
        go_wp2
        go_meet
        case rel => exact ⟨_, (false), (by first | rfl | (simp; done) | (simp [*]; done)), H', ⟨by first | omega | exact Nat.le_refl _⟩, ⟨by repeat (first | (with_reducible first | exact HB.out | apply below_alloc | apply pw_below_drewN | apply below_drew1) | exact HB.out)⟩⟩
    case rest =>
      clear HC7
      try clear c2
      try clear p2
      try clear c6
      try clear c8
      try clear c8b0
      try clear c8b1
      obtain ⟨kq, x15_6, rfl, HA, HJ6, HB⟩ := hcut
      cases kq with
      | zero => exact absurd HA.out (by simp [turncocklaw5_RatioOf.j0])
      | succ kj6 =>
        have H := HA.out
        clear HA
        simp only [turncocklaw5_RatioOf.j0] at H
        by_cases c9 : x15_6 = true
        · subst c9
          have H1 : ((math_IsNaN.f t191).bind fun t194 => (if t194 = true then ((turncocklaw5_awake.f kj6).bind fun t195 => (some t195)) else (some false))) = some r := by rw [if_pos rfl] at H; exact H
          clear H
          have H := H1
          clear H1
          replace H := Option.bind_eq_some_iff.mp H
          obtain ⟨t194, A100, H⟩ := H
          replace H : (if t194 = true then ((turncocklaw5_awake.f kj6).bind fun t195 => (some t195)) else (some false)) = some r := H
          have A10 := Aside0.mk A100
          clear A100
          by_cases c11 : t194 = true
          · subst c11
            have H1 : ((turncocklaw5_awake.f kj6).bind fun t195 => (some t195)) = some r := by rw [if_pos rfl] at H; exact H
            clear H
            have H := H1
            clear H1
            replace H := Option.bind_eq_some_iff.mp H
            obtain ⟨t195, A120, H⟩ := H
            replace H : (some t195) = some r := H
            have A12 := Aside0.mk A120
            clear A120
            first
              | exact absurd ((Option.some.inj H).trans hr_) (by decide)
              | (obtain rfl := Option.some.inj H
                 clear hr_
                 go_wp2_with (first | ((with_reducible refine gate_callee (f := 23) rfl ?_); refine goesL_ (some 23) rfl rfl Try.func23 (by kernel_rfl) rfl #[.float .f64 t191] rfl (by (try simp only [List.map_toArray, List.map_cons, List.map_nil]); first | done | rfl | (simp only [List.length_drop, List.length_take]; rfl)) ?_; (with_reducible refine (math_IsNaN.calls t191 true _ (id A10.out)).mono ?_); rintro e w' ⟨rfl, ⟨nd, rfl⟩⟩; refine ⟨_, rfl, ?_⟩) | (go_at_call 24; (with_reducible refine (turncocklaw5_awake.calls kj6  t195 _ A12.out).mono ?_); rintro e w13 ⟨rfl, hb⟩; have n0_ := Aside0.mk (below_step (by repeat (first | (with_reducible first | exact HB.out | apply below_alloc | apply pw_below_drewN | apply below_drew1) | exact HB.out)) hb); clear HB; have HB := n0_; clear n0_; (try clear hb); (try clear hb2); (try clear hk); (try clear hi)))
                 go_ret
                 exact ⟨by first | rfl | (simp [errW_none, errW_some] <;> rfl) | (simp [*, errW_none, errW_some] <;> rfl), by repeat (first | (with_reducible first | exact HB.out | apply below_alloc | apply pw_below_drewN | apply below_drew1) | exact HB.out)⟩)
          · replace c11 := Bool.eq_false_iff.mpr c11
            subst c11
            have H1 : (some false) = some r := by rw [if_neg (show ¬ (false = true) by decide)] at H; exact H
            clear H
            have H := H1
            clear H1
            exact absurd ((Option.some.inj H).trans hr_) (by decide)
        · replace c9 := Bool.eq_false_iff.mpr c9
          subst c9
          have H1 : (if a1 = 0 then ((math_IsInf.f t191 0).bind fun t196 => (if t196 = true then ((math_Signbit.f t191).bind fun t197 => (if (t197 == (decide (a0 < 0))) = true then ((turncocklaw5_awake.f kj6).bind fun t198 => (some t198)) else (some false))) else (some false))) else ((math_Signbit.f t191).bind fun t199 => (if (t199 == ((decide (a0 < 0)) != (decide (a1 < 0)))) = true then (if ((feq t191 0) == (a0 == 0)) = true then ((turncocklaw5_awake.f kj6).bind fun t200 => (some t200)) else (some false)) else (some false)))) = some r := by rw [if_neg (show ¬ (false = true) by decide)] at H; exact H
          clear H
          have H := H1
          clear H1
          by_cases c14 : a1 = 0
          · rw [if_pos c14] at H
            have c14b0 : (a1 == 0) = true := beq_iff_eq.mpr c14
            have c14b1 : (a1 != 0) = false := bne_eq_false_iff_eq.mpr c14
            clear c14
            replace H := Option.bind_eq_some_iff.mp H
            obtain ⟨t196, A150, H⟩ := H
            replace H : (if t196 = true then ((math_Signbit.f t191).bind fun t197 => (if (t197 == (decide (a0 < 0))) = true then ((turncocklaw5_awake.f kj6).bind fun t198 => (some t198)) else (some false))) else (some false)) = some r := H
            have A15 := Aside0.mk A150
            clear A150
            by_cases c16 : t196 = true
            · subst c16
              have H1 : ((math_Signbit.f t191).bind fun t197 => (if (t197 == (decide (a0 < 0))) = true then ((turncocklaw5_awake.f kj6).bind fun t198 => (some t198)) else (some false))) = some r := by rw [if_pos rfl] at H; exact H
              clear H
              have H := H1
              clear H1
              replace H := Option.bind_eq_some_iff.mp H
              obtain ⟨t197, A170, H⟩ := H
              replace H : (if (t197 == (decide (a0 < 0))) = true then ((turncocklaw5_awake.f kj6).bind fun t198 => (some t198)) else (some false)) = some r := H
              have A17 := Aside0.mk A170
              clear A170
              by_cases c18 : (t197 == (decide (a0 < 0))) = true
              · rw [if_pos c18] at H
                have c18b0 : (t197 == (decide (a0 < 0))) = true := c18
                (try (have c18b1 : decide (t197 = (decide (a0 < 0))) = true := by simpa using c18))
                (try (have c18b2 : (t197 == (decide (a0 < 0))) = true := by simpa using c18))
                clear c18
                replace H := Option.bind_eq_some_iff.mp H
                obtain ⟨t198, A190, H⟩ := H
                replace H : (some t198) = some r := H
                have A19 := Aside0.mk A190
                clear A190
                first
                  | exact absurd ((Option.some.inj H).trans hr_) (by decide)
                  | (obtain rfl := Option.some.inj H
                     clear hr_
                     go_wp2_with (first | ((with_reducible refine gate_callee (f := 25) rfl ?_); refine goesL_ (some 31) rfl rfl Try.func25 (by kernel_rfl) rfl #[.float .f64 t191, .int .i64 0] rfl (by (try simp only [List.map_toArray, List.map_cons, List.map_nil]); first | done | rfl | (simp only [List.length_drop, List.length_take]; rfl)) ?_; (with_reducible refine (math_IsInf.calls t191 0 true _ A15.out).mono ?_); rintro e w' ⟨rfl, ⟨nd, rfl⟩⟩; refine ⟨_, rfl, ?_⟩) | (go_at_call 26; (with_reducible refine (math_Signbit.calls t191 t197 _ A17.out).mono ?_); rintro e w' ⟨rfl, ⟨nd, rfl⟩⟩) | (go_at_call 24; (with_reducible refine (turncocklaw5_awake.calls kj6  t198 _ A19.out).mono ?_); rintro e w20 ⟨rfl, hb⟩; have n0_ := Aside0.mk (below_step (by repeat (first | (with_reducible first | exact HB.out | apply below_alloc | apply pw_below_drewN | apply below_drew1) | exact HB.out)) hb); clear HB; have HB := n0_; clear n0_; (try clear hb); (try clear hb2); (try clear hk); (try clear hi)))
                     go_ret
                     exact ⟨by first | rfl | (simp [errW_none, errW_some] <;> rfl) | (simp [*, errW_none, errW_some] <;> rfl), by repeat (first | (with_reducible first | exact HB.out | apply below_alloc | apply pw_below_drewN | apply below_drew1) | exact HB.out)⟩)
              · rw [if_neg c18] at H
                have c18b0 : (t197 == (decide (a0 < 0))) = false := by simpa using c18
                (try (have c18b1 : decide (t197 = (decide (a0 < 0))) = false := by simpa using c18))
                (try (have c18b2 : (t197 == (decide (a0 < 0))) = false := by simpa using c18))
                (try (have c18b3 : ¬ (t197 = (decide (a0 < 0))) := by simpa using c18))
                clear c18
                exact absurd ((Option.some.inj H).trans hr_) (by decide)
            · replace c16 := Bool.eq_false_iff.mpr c16
              subst c16
              have H1 : (some false) = some r := by rw [if_neg (show ¬ (false = true) by decide)] at H; exact H
              clear H
              have H := H1
              clear H1
              exact absurd ((Option.some.inj H).trans hr_) (by decide)
          · rw [if_neg c14] at H
            have c14b0 : (a1 == 0) = false := beq_eq_false_iff_ne.mpr c14
            have c14b1 : (a1 != 0) = true := bne_iff_ne.mpr c14
            replace H := Option.bind_eq_some_iff.mp H
            obtain ⟨t199, A210, H⟩ := H
            replace H : (if (t199 == ((decide (a0 < 0)) != (decide (a1 < 0)))) = true then (if ((feq t191 0) == (a0 == 0)) = true then ((turncocklaw5_awake.f kj6).bind fun t200 => (some t200)) else (some false)) else (some false)) = some r := H
            have A21 := Aside0.mk A210
            clear A210
            by_cases c22 : (t199 == ((decide (a0 < 0)) != (decide (a1 < 0)))) = true
            · rw [if_pos c22] at H
              have c22b0 : (t199 == ((decide (a0 < 0)) != (decide (a1 < 0)))) = true := c22
              (try (have c22b1 : decide (t199 = ((decide (a0 < 0)) != (decide (a1 < 0)))) = true := by simpa using c22))
              (try (have c22b2 : (t199 == ((decide (a0 < 0)) != (decide (a1 < 0)))) = true := by simpa using c22))
              clear c22
              by_cases c23 : ((feq t191 0) == (a0 == 0)) = true
              · rw [if_pos c23] at H
                have c23b0 : ((feq t191 0) == (a0 == 0)) = true := c23
                (try (have c23b1 : decide ((feq t191 0) = (a0 == 0)) = true := by simpa using c23))
                (try (have c23b2 : ((feq t191 0) == (a0 == 0)) = true := by simpa using c23))
                clear c23
                have SW := Aside0.mk (show t199 = (!decide (a0 < 0) == decide (a1 < 0)) from by have h_ := c22b0; revert h_; cases t199 <;> cases decide (a0 < 0) <;> cases decide (a1 < 0) <;> decide)
                replace H := Option.bind_eq_some_iff.mp H
                obtain ⟨t200, A240, H⟩ := H
                replace H : (some t200) = some r := H
                have A24 := Aside0.mk A240
                clear A240
                first
                  | exact absurd ((Option.some.inj H).trans hr_) (by decide)
                  | (obtain rfl := Option.some.inj H
                     clear hr_
                     go_wp2_with (first | ((with_reducible refine gate_callee (f := 26) rfl ?_); refine goesL_ (some 43) rfl rfl Try.func26 (by kernel_rfl) rfl #[.float .f64 t191] rfl (by (try simp only [List.map_toArray, List.map_cons, List.map_nil]); first | done | rfl | (simp only [List.length_drop, List.length_take]; rfl)) ?_; (with_reducible refine (math_Signbit.calls t191 t199 _ A21.out).mono ?_); rintro e w' ⟨rfl, ⟨nd, rfl⟩⟩; refine ⟨_, rfl, ?_⟩) | (go_at_call 24; (with_reducible refine (turncocklaw5_awake.calls kj6  t200 _ A24.out).mono ?_); rintro e w25 ⟨rfl, hb⟩; have n0_ := Aside0.mk (below_step (by repeat (first | (with_reducible first | exact HB.out | apply below_alloc | apply pw_below_drewN | apply below_drew1) | exact HB.out)) hb); clear HB; have HB := n0_; clear n0_; (try clear hb); (try clear hb2); (try clear hk); (try clear hi)))
                     all_goals (try (exact absurd SW.out ‹¬ (t199 = (!decide (a0 < 0) == decide (a1 < 0)))›))
                     go_ret
                     exact ⟨by first | rfl | (simp [errW_none, errW_some] <;> rfl) | (simp [*, errW_none, errW_some] <;> rfl), by repeat (first | (with_reducible first | exact HB.out | apply below_alloc | apply pw_below_drewN | apply below_drew1) | exact HB.out)⟩)
              · rw [if_neg c23] at H
                have c23b0 : ((feq t191 0) == (a0 == 0)) = false := by simpa using c23
                (try (have c23b1 : decide ((feq t191 0) = (a0 == 0)) = false := by simpa using c23))
                (try (have c23b2 : ((feq t191 0) == (a0 == 0)) = false := by simpa using c23))
                (try (have c23b3 : ¬ ((feq t191 0) = (a0 == 0)) := by simpa using c23))
                clear c23
                exact absurd ((Option.some.inj H).trans hr_) (by decide)
            · rw [if_neg c22] at H
              have c22b0 : (t199 == ((decide (a0 < 0)) != (decide (a1 < 0)))) = false := by simpa using c22
              (try (have c22b1 : decide (t199 = ((decide (a0 < 0)) != (decide (a1 < 0)))) = false := by simpa using c22))
              (try (have c22b2 : (t199 == ((decide (a0 < 0)) != (decide (a1 < 0)))) = false := by simpa using c22))
              (try (have c22b3 : ¬ (t199 = ((decide (a0 < 0)) != (decide (a1 < 0)))) := by simpa using c22))
              clear c22
              exact absurd ((Option.some.inj H).trans hr_) (by decide)
  · replace c6 := Bool.eq_false_iff.mpr c6
    subst c6
    have H1 : (some false) = some r := by rw [if_neg (show ¬ (false = true) by decide)] at H; exact H
    clear H
    have H := H1
    clear H1
    exact absurd ((Option.some.inj H).trans hr_) (by decide)

theorem turncockref1_Alike.sim2 {k z1 z2 : Nat} {r : Bool} (h1 : fsim z1 9221120237041090561) (h2 : fsim z2 9221120237041090561) (e : turncockref1_Alike.f k 9221120237041090561 9221120237041090561 = some r) : turncockref1_Alike.f k z1 z2 = some r := by
  have n0 : fnan 9221120237041090561 = true := by decide
  have n1 : fnan z1 = true := by rcases h1 with rfl | ⟨h, _⟩ <;> assumption
  have n2 : fnan z2 = true := by rcases h2 with rfl | ⟨h, _⟩ <;> assumption
  rw [← e]
  unfold turncockref1_Alike.f turncockref1_Order.f math_IsNaN.f
  rw [fne_nan n0, fne_nan n1]
  simp only [Option.bind_some, if_true]
  cases k with
  | zero => rfl
  | succ k =>
    simp only [turncockref1_Order.j0, if_true, math_IsNaN.f, fne_nan n0, fne_nan n1, fne_nan n2, Option.bind_some]
    cases k with
    | zero => rfl
    | succ k => rfl
set_option maxHeartbeats 8000000 in
set_option maxRecDepth 100000 in
theorem turncocklaw5_RatioOf.calls_nan (k : Nat) (w : World) (h : turncocklaw5_RatioOf.f k 0 0 = some true) :
    Calls Try.prog 6 #[.int .i64 0, .int .i64 0] w fun e w' => e = .returned (.bool true) ∧ Below w.heap.size w w' := by
  have HB := Aside0.mk (Below.refl w.heap.size w)
  unfold turncocklaw5_RatioOf.f at h
  rw [show ratio_Of.f 0 0 = some 9221120237041090561 from by decide +kernel, show turncockref1_Of.f 0 0 = some 9221120237041090561 from by decide +kernel, Option.bind_some, Option.bind_some] at h
  obtain ⟨b, hal, h⟩ := Option.bind_eq_some_iff.mp h
  cases b with
  | false => cases h
  | true =>
    simp only [if_true] at h
    cases k with
    | zero => cases h
    | succ kj =>
      simp only [turncocklaw5_RatioOf.j0, beq_self_eq_true, if_true, math_IsNaN.f] at h
      rw [show fne 9221120237041090561 9221120237041090561 = true from by decide +kernel] at h
      simp only [Option.bind_some, if_true] at h
      obtain ⟨b, haw, h⟩ := Option.bind_eq_some_iff.mp h
      obtain rfl := Option.some.inj h
      clear h
      have AL := Aside0.mk hal
      have AW := Aside0.mk haw
      clear hal haw
      go_enter Try.func6, Try.ntmps6
      go_wp2_with (first | ((with_reducible refine gate_callee (f := 21) rfl ?_); refine goesL_ (some 8) rfl rfl Try.func21 (by kernel_rfl) rfl #[.int .i64 0, .int .i64 0] rfl (by (try simp only [List.map_toArray, List.map_cons, List.map_nil]); first | done | rfl | (simp only [List.length_drop, List.length_take]; rfl)) ?_; (with_reducible refine (ratio_Of.calls 0 0 9221120237041090561 _ (by decide +kernel)).mono ?_); rintro e w' ⟨zt191, hsz_t1910, rfl, ⟨nd, rfl⟩⟩; have hsz_t191 := Aside0.mk hsz_t1910; clear hsz_t1910; refine ⟨_, rfl, ?_⟩) | ((with_reducible refine gate_callee (f := 20) rfl ?_); refine goesL_ (some 12) rfl rfl Try.func20 (by kernel_rfl) rfl #[.int .i64 0, .int .i64 0] rfl (by (try simp only [List.map_toArray, List.map_cons, List.map_nil]); first | done | rfl | (simp only [List.length_drop, List.length_take]; rfl)) ?_; (with_reducible refine (turncockref1_Of.calls 0 0 9221120237041090561 _ (by decide +kernel)).mono ?_); rintro e w' ⟨zt192, hsz_t1920, rfl, ⟨nd, rfl⟩⟩; have hsz_t192 := Aside0.mk hsz_t1920; clear hsz_t1920; refine ⟨_, rfl, ?_⟩) | ((with_reducible refine gate_callee (f := 22) rfl ?_); refine goesL_ (some 13) rfl rfl Try.func22 (by kernel_rfl) rfl #[.float .f64 zt191, .float .f64 zt192] rfl (by (try simp only [List.map_toArray, List.map_cons, List.map_nil]); first | done | rfl | (simp only [List.length_drop, List.length_take]; rfl)) ?_; (with_reducible refine (turncockref1_Alike.calls (kj + 1) zt191 zt192 true _ (turncockref1_Alike.sim2 hsz_t191.out hsz_t192.out AL.out)).mono ?_); rintro e w' ⟨rfl, ⟨nd, rfl⟩⟩; refine ⟨_, rfl, ?_⟩) | ((with_reducible refine gate_callee (f := 23) rfl ?_); refine goesL_ (some 23) rfl rfl Try.func23 (by kernel_rfl) rfl #[.float .f64 zt191] rfl (by (try simp only [List.map_toArray, List.map_cons, List.map_nil]); first | done | rfl | (simp only [List.length_drop, List.length_take]; rfl)) ?_; (with_reducible refine (math_IsNaN.calls zt191 true _ (math_IsNaN.sim hsz_t191.out (by decide +kernel))).mono ?_); rintro e w' ⟨rfl, ⟨nd, rfl⟩⟩; refine ⟨_, rfl, ?_⟩) | (go_at_call 24; (with_reducible refine (turncocklaw5_awake.calls kj  true _ AW.out).mono ?_); rintro e w13 ⟨rfl, hb⟩; have n0_ := Aside0.mk (below_step (by repeat (first | (with_reducible first | exact HB.out | apply below_alloc | apply pw_below_drewN | apply below_drew1) | exact HB.out)) hb); clear HB; have HB := n0_; clear n0_; (try clear hb); (try clear hb2); (try clear hk); (try clear hi)))
      go_ret
      exact ⟨by first | rfl | (simp [errW_none, errW_some] <;> rfl), by repeat (first | (with_reducible first | exact HB.out | apply below_alloc | apply pw_below_drewN | apply below_drew1) | exact HB.out)⟩
theorem turncocklaw5_RatioOf.calls (k : Nat) (a0 : Int) (a1 : Int) (r : Bool) (w : World) (h : turncocklaw5_RatioOf.f k a0 a1 = some r) (hr_ : r = true) (w0 : (Lit.int .i64 a0).wf = true) (w1 : (Lit.int .i64 a1).wf = true) :
    Calls Try.prog 6 #[.int .i64 a0, .int .i64 a1] w fun e w' => e = .returned (.bool r) ∧ Below w.heap.size w w' := by
  by_cases hq : fquoOk (fofi a0) (fofi a1) = true
  · exact turncocklaw5_RatioOf.calls_ok k a0 a1 r w h hr_ hq
  · obtain ⟨h0, h1⟩ := Flt.quo_nan a0 a1 (by simp [Lit.wf, IntKind.min, IntKind.max, IntKind.bits, IntKind.signed] at w0; omega) (by simp [Lit.wf, IntKind.min, IntKind.max, IntKind.bits, IntKind.signed] at w1; omega) (by simpa using hq)
    subst h0
    subst h1
    subst hr_
    exact turncocklaw5_RatioOf.calls_nan k w h

/-- THE ONE PURE STATEMENT of turncocklaw5_RatioOf: yours. -/
def turncocklaw5_RatioOf.Pure : Prop := ∀ (a0 : Int) (a1 : Int), (Lit.int .i64 a0).wf = true → (Lit.int .i64 a1).wf = true → ∃ k, turncocklaw5_RatioOf.f k a0 a1 = some true
theorem turncocklaw5_RatioOf.walk (P : turncocklaw5_RatioOf.Pure) (a0 : Int) (a1 : Int) (w : World) (w0 : (Lit.int .i64 a0).wf = true) (w1 : (Lit.int .i64 a1).wf = true) :
    Calls Try.prog 6 #[.int .i64 a0, .int .i64 a1] w fun e w' => e = .returned (.bool true) ∧ Below w.heap.size w w' := by
  obtain ⟨k, h⟩ := P a0 a1 w0 w1
  refine (turncocklaw5_RatioOf.calls k a0 a1 true w h rfl w0 w1).mono ?_
  rintro e w' ⟨rfl, hd⟩
  exact ⟨rfl, hd⟩

end Go.Proofs.Ytoopmkinpandfaa.PRatioOf
