-- WRITTEN BY THIS SESSION'S mprint.py upon the print: some functions are proved by hand
import Derived.Test.YtoopmkinpandfaaPRatioRisesx0
import Derived.Test.YtoopmkinpandfaaPRatioRisesx1
import Derived.Test.YtoopmkinpandfaaPRatioRisesx2
import Derived.Test.YtoopmkinpandfaaPRatioRisesx3
import Derived.Test.YtoopmkinpandfaaPRatioRisesx4
namespace Go.Proofs.Ytoopmkinpandfaa.PRatioRises
open Go.RowKit Go.Proofs.YtoopmkinpandfaaW.PrintWords Go.Proofs.YtoopmkinpandfaaW.PrintLast Go.Proofs.YtoopmkinpandfaaW.PrintMore
attribute [local go_sem] max2_int min2_int max_two min_two max_three min_three max_four min_four   -- for this text's walks alone
set_option linter.unusedVariables false
set_option linter.unusedSimpArgs false

/-! ### turncocklaw5_awake: function 24 -/
theorem math_IsNaN.sim {z t : Nat} {r : Bool} (h : fsim z t) (e : math_IsNaN.f t = some r) : math_IsNaN.f z = some r := by
  rcases h with rfl | ⟨h1, h2⟩
  · exact e
  · unfold math_IsNaN.f at *
    rw [fne_nan h1]
    rw [fne_nan h2] at e
    exact e
theorem math_NaN.two {a b : Nat} {r : Bool} (h1 : math_NaN.f = some a) (h2 : math_NaN.f = some b) (h : ratio_Same.f a b = some r) : ratio_Same.f a a = some r := by
  have e : a = b := Option.some.inj (h1.symm.trans h2)
  rw [← e] at h; exact h
theorem ratio_Text.sim {k z t : Nat} {r : ByteArray} (h : fsim z t) (e : ratio_Text.f k t = some r) : ratio_Text.f k z = some r := by
  rcases h with rfl | ⟨h1, h2⟩
  · exact e
  · unfold ratio_Text.f math_IsNaN.f at *
    rw [fne_nan h1, Option.bind_some, if_pos rfl]
    rw [fne_nan h2, Option.bind_some, if_pos rfl] at e
    exact e
def turncocklaw5_awake.g (k : Nat)  : Option (Bool) := (ratio_Parse.f k (⟨#[45, 48]⟩ : ByteArray)).bind fun bt164 => ((ratio_Write.f k 4602678819172646912).bind fun bt166 => ((ratio_Parse.f k (⟨#[48, 49]⟩ : ByteArray)).bind fun bt168 => ((ratio_Of.f 0 0).bind fun t170 => ((math_IsNaN.f t170).bind fun t171 => (if t171 = true then ((ratio_Of.f 0 0).bind fun t172 => ((ratio_Text.f k t172).bind fun t173 => (if t173.toList = ([110, 97, 110] : List UInt8) then ((ratio_Near.f k 10 4605380978949069210).bind fun t174 => (if t174 = 8 then (if bt164.2 = true then (if (feq bt164.1 0) = true then ((math_Signbit.f bt164.1).bind fun t175 => (if t175 = true then ((ratio_Text.f k bt164.1).bind fun t176 => (if t176.toList = ([45, 48, 46, 48, 48, 48] : List UInt8) then (if bt166.1.toList = ([48, 46, 53] : List UInt8) then (if bt166.2 = true then (if bt168.2 = true then (some false) else ((ratio_Order.f bt164.1 0).bind fun t177 => (if t177 = (-1) then ((ratio_Same.f bt164.1 0).bind fun t178 => (if t178 = true then (some false) else ((math_NaN.f).bind fun t179 => ((math_NaN.f).bind fun t180 => ((ratio_Same.f t179 t180).bind fun t181 => (some t181)))))) else (some false)))) else (some false)) else (some false)) else (some false))) else (some false))) else (some false)) else (some false)) else (some false))) else (some false)))) else (some false))))))
theorem turncocklaw5_awake.gmono : ∀ k, LeO (turncocklaw5_awake.g k ) (turncocklaw5_awake.g (k + 1) ) := by
  intro  k
  unfold turncocklaw5_awake.g
  repeat' first
      | (with_reducible exact ratio_Near.mono _ _ _)
      | (with_reducible exact ratio_Parse.mono _ _)
      | (with_reducible exact ratio_Text.mono _ _)
      | (with_reducible exact ratio_Write.mono _ _)
      | (with_reducible exact LeO.refl _)
      | (with_reducible exact LeO.none _)
      | (with_reducible refine LeO.ite ?_ ?_)
      | (with_reducible refine LeO.bind ?_ (fun _ => ?_))
      | exact ratio_Near.mono _ _ _
      | exact ratio_Parse.mono _ _
      | exact ratio_Text.mono _ _
      | exact ratio_Write.mono _ _
      | exact LeO.none _
      | refine LeO.ite ?_ ?_
      | refine LeO.bind ?_ (fun _ => ?_)
set_option maxHeartbeats 8000000 in
set_option maxRecDepth 100000 in
theorem turncocklaw5_awake.gcalls (k : Nat)  (r : Bool) (w : World) (h : turncocklaw5_awake.g k  = some r) (hr_ : r = true) :
    Calls Try.prog 24 #[] w fun e w' => e = .returned (.bool r) ∧ Below w.heap.size w w' := by
  have HB := Aside0.mk (Below.refl w.heap.size w)
  have H : ((ratio_Parse.f k (⟨#[45, 48]⟩ : ByteArray)).bind fun bt164 => ((ratio_Write.f k 4602678819172646912).bind fun bt166 => ((ratio_Parse.f k (⟨#[48, 49]⟩ : ByteArray)).bind fun bt168 => ((ratio_Of.f 0 0).bind fun t170 => ((math_IsNaN.f t170).bind fun t171 => (if t171 = true then ((ratio_Of.f 0 0).bind fun t172 => ((ratio_Text.f k t172).bind fun t173 => (if t173.toList = ([110, 97, 110] : List UInt8) then ((ratio_Near.f k 10 4605380978949069210).bind fun t174 => (if t174 = 8 then (if bt164.2 = true then (if (feq bt164.1 0) = true then ((math_Signbit.f bt164.1).bind fun t175 => (if t175 = true then ((ratio_Text.f k bt164.1).bind fun t176 => (if t176.toList = ([45, 48, 46, 48, 48, 48] : List UInt8) then (if bt166.1.toList = ([48, 46, 53] : List UInt8) then (if bt166.2 = true then (if bt168.2 = true then (some false) else ((ratio_Order.f bt164.1 0).bind fun t177 => (if t177 = (-1) then ((ratio_Same.f bt164.1 0).bind fun t178 => (if t178 = true then (some false) else ((math_NaN.f).bind fun t179 => ((math_NaN.f).bind fun t180 => ((ratio_Same.f t179 t180).bind fun t181 => (some t181)))))) else (some false)))) else (some false)) else (some false)) else (some false))) else (some false))) else (some false)) else (some false)) else (some false))) else (some false)))) else (some false))))))) = some r := h
  clear h
  replace H := Option.bind_eq_some_iff.mp H
  obtain ⟨⟨t164, t165⟩, A10, H⟩ := H
  replace H : ((ratio_Write.f k 4602678819172646912).bind fun bt166 => ((ratio_Parse.f k (⟨#[48, 49]⟩ : ByteArray)).bind fun bt168 => ((ratio_Of.f 0 0).bind fun t170 => ((math_IsNaN.f t170).bind fun t171 => (if t171 = true then ((ratio_Of.f 0 0).bind fun t172 => ((ratio_Text.f k t172).bind fun t173 => (if t173.toList = ([110, 97, 110] : List UInt8) then ((ratio_Near.f k 10 4605380978949069210).bind fun t174 => (if t174 = 8 then (if t165 = true then (if (feq t164 0) = true then ((math_Signbit.f t164).bind fun t175 => (if t175 = true then ((ratio_Text.f k t164).bind fun t176 => (if t176.toList = ([45, 48, 46, 48, 48, 48] : List UInt8) then (if bt166.1.toList = ([48, 46, 53] : List UInt8) then (if bt166.2 = true then (if bt168.2 = true then (some false) else ((ratio_Order.f t164 0).bind fun t177 => (if t177 = (-1) then ((ratio_Same.f t164 0).bind fun t178 => (if t178 = true then (some false) else ((math_NaN.f).bind fun t179 => ((math_NaN.f).bind fun t180 => ((ratio_Same.f t179 t180).bind fun t181 => (some t181)))))) else (some false)))) else (some false)) else (some false)) else (some false))) else (some false))) else (some false)) else (some false)) else (some false))) else (some false)))) else (some false)))))) = some r := H
  have A1 := Aside0.mk A10
  clear A10
  replace H := Option.bind_eq_some_iff.mp H
  obtain ⟨⟨t166, t167⟩, A20, H⟩ := H
  replace H : ((ratio_Parse.f k (⟨#[48, 49]⟩ : ByteArray)).bind fun bt168 => ((ratio_Of.f 0 0).bind fun t170 => ((math_IsNaN.f t170).bind fun t171 => (if t171 = true then ((ratio_Of.f 0 0).bind fun t172 => ((ratio_Text.f k t172).bind fun t173 => (if t173.toList = ([110, 97, 110] : List UInt8) then ((ratio_Near.f k 10 4605380978949069210).bind fun t174 => (if t174 = 8 then (if t165 = true then (if (feq t164 0) = true then ((math_Signbit.f t164).bind fun t175 => (if t175 = true then ((ratio_Text.f k t164).bind fun t176 => (if t176.toList = ([45, 48, 46, 48, 48, 48] : List UInt8) then (if t166.toList = ([48, 46, 53] : List UInt8) then (if t167 = true then (if bt168.2 = true then (some false) else ((ratio_Order.f t164 0).bind fun t177 => (if t177 = (-1) then ((ratio_Same.f t164 0).bind fun t178 => (if t178 = true then (some false) else ((math_NaN.f).bind fun t179 => ((math_NaN.f).bind fun t180 => ((ratio_Same.f t179 t180).bind fun t181 => (some t181)))))) else (some false)))) else (some false)) else (some false)) else (some false))) else (some false))) else (some false)) else (some false)) else (some false))) else (some false)))) else (some false))))) = some r := H
  have A2 := Aside0.mk A20
  clear A20
  replace H := Option.bind_eq_some_iff.mp H
  obtain ⟨⟨t168, t169⟩, A30, H⟩ := H
  replace H : ((ratio_Of.f 0 0).bind fun t170 => ((math_IsNaN.f t170).bind fun t171 => (if t171 = true then ((ratio_Of.f 0 0).bind fun t172 => ((ratio_Text.f k t172).bind fun t173 => (if t173.toList = ([110, 97, 110] : List UInt8) then ((ratio_Near.f k 10 4605380978949069210).bind fun t174 => (if t174 = 8 then (if t165 = true then (if (feq t164 0) = true then ((math_Signbit.f t164).bind fun t175 => (if t175 = true then ((ratio_Text.f k t164).bind fun t176 => (if t176.toList = ([45, 48, 46, 48, 48, 48] : List UInt8) then (if t166.toList = ([48, 46, 53] : List UInt8) then (if t167 = true then (if t169 = true then (some false) else ((ratio_Order.f t164 0).bind fun t177 => (if t177 = (-1) then ((ratio_Same.f t164 0).bind fun t178 => (if t178 = true then (some false) else ((math_NaN.f).bind fun t179 => ((math_NaN.f).bind fun t180 => ((ratio_Same.f t179 t180).bind fun t181 => (some t181)))))) else (some false)))) else (some false)) else (some false)) else (some false))) else (some false))) else (some false)) else (some false)) else (some false))) else (some false)))) else (some false)))) = some r := H
  have A3 := Aside0.mk A30
  clear A30
  replace H := Option.bind_eq_some_iff.mp H
  obtain ⟨t170, A40, H⟩ := H
  replace H : ((math_IsNaN.f t170).bind fun t171 => (if t171 = true then ((ratio_Of.f 0 0).bind fun t172 => ((ratio_Text.f k t172).bind fun t173 => (if t173.toList = ([110, 97, 110] : List UInt8) then ((ratio_Near.f k 10 4605380978949069210).bind fun t174 => (if t174 = 8 then (if t165 = true then (if (feq t164 0) = true then ((math_Signbit.f t164).bind fun t175 => (if t175 = true then ((ratio_Text.f k t164).bind fun t176 => (if t176.toList = ([45, 48, 46, 48, 48, 48] : List UInt8) then (if t166.toList = ([48, 46, 53] : List UInt8) then (if t167 = true then (if t169 = true then (some false) else ((ratio_Order.f t164 0).bind fun t177 => (if t177 = (-1) then ((ratio_Same.f t164 0).bind fun t178 => (if t178 = true then (some false) else ((math_NaN.f).bind fun t179 => ((math_NaN.f).bind fun t180 => ((ratio_Same.f t179 t180).bind fun t181 => (some t181)))))) else (some false)))) else (some false)) else (some false)) else (some false))) else (some false))) else (some false)) else (some false)) else (some false))) else (some false)))) else (some false))) = some r := H
  have A4 := Aside0.mk A40
  clear A40
  replace H := Option.bind_eq_some_iff.mp H
  obtain ⟨t171, A50, H⟩ := H
  replace H : (if t171 = true then ((ratio_Of.f 0 0).bind fun t172 => ((ratio_Text.f k t172).bind fun t173 => (if t173.toList = ([110, 97, 110] : List UInt8) then ((ratio_Near.f k 10 4605380978949069210).bind fun t174 => (if t174 = 8 then (if t165 = true then (if (feq t164 0) = true then ((math_Signbit.f t164).bind fun t175 => (if t175 = true then ((ratio_Text.f k t164).bind fun t176 => (if t176.toList = ([45, 48, 46, 48, 48, 48] : List UInt8) then (if t166.toList = ([48, 46, 53] : List UInt8) then (if t167 = true then (if t169 = true then (some false) else ((ratio_Order.f t164 0).bind fun t177 => (if t177 = (-1) then ((ratio_Same.f t164 0).bind fun t178 => (if t178 = true then (some false) else ((math_NaN.f).bind fun t179 => ((math_NaN.f).bind fun t180 => ((ratio_Same.f t179 t180).bind fun t181 => (some t181)))))) else (some false)))) else (some false)) else (some false)) else (some false))) else (some false))) else (some false)) else (some false)) else (some false))) else (some false)))) else (some false)) = some r := H
  have A5 := Aside0.mk A50
  clear A50
  by_cases c6 : t171 = true
  · subst c6
    have H1 : ((ratio_Of.f 0 0).bind fun t172 => ((ratio_Text.f k t172).bind fun t173 => (if t173.toList = ([110, 97, 110] : List UInt8) then ((ratio_Near.f k 10 4605380978949069210).bind fun t174 => (if t174 = 8 then (if t165 = true then (if (feq t164 0) = true then ((math_Signbit.f t164).bind fun t175 => (if t175 = true then ((ratio_Text.f k t164).bind fun t176 => (if t176.toList = ([45, 48, 46, 48, 48, 48] : List UInt8) then (if t166.toList = ([48, 46, 53] : List UInt8) then (if t167 = true then (if t169 = true then (some false) else ((ratio_Order.f t164 0).bind fun t177 => (if t177 = (-1) then ((ratio_Same.f t164 0).bind fun t178 => (if t178 = true then (some false) else ((math_NaN.f).bind fun t179 => ((math_NaN.f).bind fun t180 => ((ratio_Same.f t179 t180).bind fun t181 => (some t181)))))) else (some false)))) else (some false)) else (some false)) else (some false))) else (some false))) else (some false)) else (some false)) else (some false))) else (some false)))) = some r := by rw [if_pos rfl] at H; exact H
    clear H
    have H := H1
    clear H1
    replace H := Option.bind_eq_some_iff.mp H
    obtain ⟨t172, A70, H⟩ := H
    replace H : ((ratio_Text.f k t172).bind fun t173 => (if t173.toList = ([110, 97, 110] : List UInt8) then ((ratio_Near.f k 10 4605380978949069210).bind fun t174 => (if t174 = 8 then (if t165 = true then (if (feq t164 0) = true then ((math_Signbit.f t164).bind fun t175 => (if t175 = true then ((ratio_Text.f k t164).bind fun t176 => (if t176.toList = ([45, 48, 46, 48, 48, 48] : List UInt8) then (if t166.toList = ([48, 46, 53] : List UInt8) then (if t167 = true then (if t169 = true then (some false) else ((ratio_Order.f t164 0).bind fun t177 => (if t177 = (-1) then ((ratio_Same.f t164 0).bind fun t178 => (if t178 = true then (some false) else ((math_NaN.f).bind fun t179 => ((math_NaN.f).bind fun t180 => ((ratio_Same.f t179 t180).bind fun t181 => (some t181)))))) else (some false)))) else (some false)) else (some false)) else (some false))) else (some false))) else (some false)) else (some false)) else (some false))) else (some false))) = some r := H
    have A7 := Aside0.mk A70
    clear A70
    replace H := Option.bind_eq_some_iff.mp H
    obtain ⟨t173, A80, H⟩ := H
    replace H : (if t173.toList = ([110, 97, 110] : List UInt8) then ((ratio_Near.f k 10 4605380978949069210).bind fun t174 => (if t174 = 8 then (if t165 = true then (if (feq t164 0) = true then ((math_Signbit.f t164).bind fun t175 => (if t175 = true then ((ratio_Text.f k t164).bind fun t176 => (if t176.toList = ([45, 48, 46, 48, 48, 48] : List UInt8) then (if t166.toList = ([48, 46, 53] : List UInt8) then (if t167 = true then (if t169 = true then (some false) else ((ratio_Order.f t164 0).bind fun t177 => (if t177 = (-1) then ((ratio_Same.f t164 0).bind fun t178 => (if t178 = true then (some false) else ((math_NaN.f).bind fun t179 => ((math_NaN.f).bind fun t180 => ((ratio_Same.f t179 t180).bind fun t181 => (some t181)))))) else (some false)))) else (some false)) else (some false)) else (some false))) else (some false))) else (some false)) else (some false)) else (some false))) else (some false)) = some r := H
    have A8 := Aside0.mk A80
    clear A80
    by_cases c9 : t173.toList = ([110, 97, 110] : List UInt8)
    · rw [if_pos c9] at H
      have c9b0 : (t173.toList == ([110, 97, 110] : List UInt8)) = true := beq_iff_eq.mpr c9
      have c9b1 : (t173.toList != ([110, 97, 110] : List UInt8)) = false := bne_eq_false_iff_eq.mpr c9
      clear c9
      replace H := Option.bind_eq_some_iff.mp H
      obtain ⟨t174, A100, H⟩ := H
      replace H : (if t174 = 8 then (if t165 = true then (if (feq t164 0) = true then ((math_Signbit.f t164).bind fun t175 => (if t175 = true then ((ratio_Text.f k t164).bind fun t176 => (if t176.toList = ([45, 48, 46, 48, 48, 48] : List UInt8) then (if t166.toList = ([48, 46, 53] : List UInt8) then (if t167 = true then (if t169 = true then (some false) else ((ratio_Order.f t164 0).bind fun t177 => (if t177 = (-1) then ((ratio_Same.f t164 0).bind fun t178 => (if t178 = true then (some false) else ((math_NaN.f).bind fun t179 => ((math_NaN.f).bind fun t180 => ((ratio_Same.f t179 t180).bind fun t181 => (some t181)))))) else (some false)))) else (some false)) else (some false)) else (some false))) else (some false))) else (some false)) else (some false)) else (some false)) = some r := H
      have A10 := Aside0.mk A100
      clear A100
      by_cases c11 : t174 = 8
      · rw [if_pos c11] at H
        have c11b0 : (t174 == 8) = true := beq_iff_eq.mpr c11
        have c11b1 : (t174 != 8) = false := bne_eq_false_iff_eq.mpr c11
        clear c11
        by_cases c12 : t165 = true
        · subst c12
          have H1 : (if (feq t164 0) = true then ((math_Signbit.f t164).bind fun t175 => (if t175 = true then ((ratio_Text.f k t164).bind fun t176 => (if t176.toList = ([45, 48, 46, 48, 48, 48] : List UInt8) then (if t166.toList = ([48, 46, 53] : List UInt8) then (if t167 = true then (if t169 = true then (some false) else ((ratio_Order.f t164 0).bind fun t177 => (if t177 = (-1) then ((ratio_Same.f t164 0).bind fun t178 => (if t178 = true then (some false) else ((math_NaN.f).bind fun t179 => ((math_NaN.f).bind fun t180 => ((ratio_Same.f t179 t180).bind fun t181 => (some t181)))))) else (some false)))) else (some false)) else (some false)) else (some false))) else (some false))) else (some false)) = some r := by rw [if_pos rfl] at H; exact H
          clear H
          have H := H1
          clear H1
          by_cases c13 : (feq t164 0) = true
          · rw [if_pos c13] at H
            have c13b0 : (feq t164 0) = true := c13
            clear c13
            replace H := Option.bind_eq_some_iff.mp H
            obtain ⟨t175, A140, H⟩ := H
            replace H : (if t175 = true then ((ratio_Text.f k t164).bind fun t176 => (if t176.toList = ([45, 48, 46, 48, 48, 48] : List UInt8) then (if t166.toList = ([48, 46, 53] : List UInt8) then (if t167 = true then (if t169 = true then (some false) else ((ratio_Order.f t164 0).bind fun t177 => (if t177 = (-1) then ((ratio_Same.f t164 0).bind fun t178 => (if t178 = true then (some false) else ((math_NaN.f).bind fun t179 => ((math_NaN.f).bind fun t180 => ((ratio_Same.f t179 t180).bind fun t181 => (some t181)))))) else (some false)))) else (some false)) else (some false)) else (some false))) else (some false)) = some r := H
            have A14 := Aside0.mk A140
            clear A140
            by_cases c15 : t175 = true
            · subst c15
              have H1 : ((ratio_Text.f k t164).bind fun t176 => (if t176.toList = ([45, 48, 46, 48, 48, 48] : List UInt8) then (if t166.toList = ([48, 46, 53] : List UInt8) then (if t167 = true then (if t169 = true then (some false) else ((ratio_Order.f t164 0).bind fun t177 => (if t177 = (-1) then ((ratio_Same.f t164 0).bind fun t178 => (if t178 = true then (some false) else ((math_NaN.f).bind fun t179 => ((math_NaN.f).bind fun t180 => ((ratio_Same.f t179 t180).bind fun t181 => (some t181)))))) else (some false)))) else (some false)) else (some false)) else (some false))) = some r := by rw [if_pos rfl] at H; exact H
              clear H
              have H := H1
              clear H1
              replace H := Option.bind_eq_some_iff.mp H
              obtain ⟨t176, A160, H⟩ := H
              replace H : (if t176.toList = ([45, 48, 46, 48, 48, 48] : List UInt8) then (if t166.toList = ([48, 46, 53] : List UInt8) then (if t167 = true then (if t169 = true then (some false) else ((ratio_Order.f t164 0).bind fun t177 => (if t177 = (-1) then ((ratio_Same.f t164 0).bind fun t178 => (if t178 = true then (some false) else ((math_NaN.f).bind fun t179 => ((math_NaN.f).bind fun t180 => ((ratio_Same.f t179 t180).bind fun t181 => (some t181)))))) else (some false)))) else (some false)) else (some false)) else (some false)) = some r := H
              have A16 := Aside0.mk A160
              clear A160
              by_cases c17 : t176.toList = ([45, 48, 46, 48, 48, 48] : List UInt8)
              · rw [if_pos c17] at H
                have c17b0 : (t176.toList == ([45, 48, 46, 48, 48, 48] : List UInt8)) = true := beq_iff_eq.mpr c17
                have c17b1 : (t176.toList != ([45, 48, 46, 48, 48, 48] : List UInt8)) = false := bne_eq_false_iff_eq.mpr c17
                clear c17
                by_cases c18 : t166.toList = ([48, 46, 53] : List UInt8)
                · rw [if_pos c18] at H
                  have c18b0 : (t166.toList == ([48, 46, 53] : List UInt8)) = true := beq_iff_eq.mpr c18
                  have c18b1 : (t166.toList != ([48, 46, 53] : List UInt8)) = false := bne_eq_false_iff_eq.mpr c18
                  clear c18
                  by_cases c19 : t167 = true
                  · subst c19
                    have H1 : (if t169 = true then (some false) else ((ratio_Order.f t164 0).bind fun t177 => (if t177 = (-1) then ((ratio_Same.f t164 0).bind fun t178 => (if t178 = true then (some false) else ((math_NaN.f).bind fun t179 => ((math_NaN.f).bind fun t180 => ((ratio_Same.f t179 t180).bind fun t181 => (some t181)))))) else (some false)))) = some r := by rw [if_pos rfl] at H; exact H
                    clear H
                    have H := H1
                    clear H1
                    by_cases c20 : t169 = true
                    · subst c20
                      have H1 : (some false) = some r := by rw [if_pos rfl] at H; exact H
                      clear H
                      have H := H1
                      clear H1
                      exact absurd ((Option.some.inj H).trans hr_) (by decide)
                    · replace c20 := Bool.eq_false_iff.mpr c20
                      subst c20
                      have H1 : ((ratio_Order.f t164 0).bind fun t177 => (if t177 = (-1) then ((ratio_Same.f t164 0).bind fun t178 => (if t178 = true then (some false) else ((math_NaN.f).bind fun t179 => ((math_NaN.f).bind fun t180 => ((ratio_Same.f t179 t180).bind fun t181 => (some t181)))))) else (some false))) = some r := by rw [if_neg (show ¬ (false = true) by decide)] at H; exact H
                      clear H
                      have H := H1
                      clear H1
                      replace H := Option.bind_eq_some_iff.mp H
                      obtain ⟨t177, A270, H⟩ := H
                      replace H : (if t177 = (-1) then ((ratio_Same.f t164 0).bind fun t178 => (if t178 = true then (some false) else ((math_NaN.f).bind fun t179 => ((math_NaN.f).bind fun t180 => ((ratio_Same.f t179 t180).bind fun t181 => (some t181)))))) else (some false)) = some r := H
                      have A27 := Aside0.mk A270
                      clear A270
                      by_cases c28 : t177 = (-1)
                      · rw [if_pos c28] at H
                        have c28b0 : (t177 == (-1)) = true := beq_iff_eq.mpr c28
                        have c28b1 : (t177 != (-1)) = false := bne_eq_false_iff_eq.mpr c28
                        clear c28
                        replace H := Option.bind_eq_some_iff.mp H
                        obtain ⟨t178, A290, H⟩ := H
                        replace H : (if t178 = true then (some false) else ((math_NaN.f).bind fun t179 => ((math_NaN.f).bind fun t180 => ((ratio_Same.f t179 t180).bind fun t181 => (some t181))))) = some r := H
                        have A29 := Aside0.mk A290
                        clear A290
                        by_cases c30 : t178 = true
                        · subst c30
                          have H1 : (some false) = some r := by rw [if_pos rfl] at H; exact H
                          clear H
                          have H := H1
                          clear H1
                          exact absurd ((Option.some.inj H).trans hr_) (by decide)
                        · replace c30 := Bool.eq_false_iff.mpr c30
                          subst c30
                          have H1 : ((math_NaN.f).bind fun t179 => ((math_NaN.f).bind fun t180 => ((ratio_Same.f t179 t180).bind fun t181 => (some t181)))) = some r := by rw [if_neg (show ¬ (false = true) by decide)] at H; exact H
                          clear H
                          have H := H1
                          clear H1
                          replace H := Option.bind_eq_some_iff.mp H
                          obtain ⟨t179, A370, H⟩ := H
                          replace H : ((math_NaN.f).bind fun t180 => ((ratio_Same.f t179 t180).bind fun t181 => (some t181))) = some r := H
                          have A37 := Aside0.mk A370
                          clear A370
                          replace H := Option.bind_eq_some_iff.mp H
                          obtain ⟨t180, A380, H⟩ := H
                          replace H : ((ratio_Same.f t179 t180).bind fun t181 => (some t181)) = some r := H
                          have A38 := Aside0.mk A380
                          clear A380
                          replace H := Option.bind_eq_some_iff.mp H
                          obtain ⟨t181, A390, H⟩ := H
                          replace H : (some t181) = some r := H
                          have A39 := Aside0.mk A390
                          clear A390
                          first
                            | exact absurd ((Option.some.inj H).trans hr_) (by decide)
                            | (obtain rfl := Option.some.inj H
                               clear hr_
                               go_enter Try.func24, Try.ntmps24
                               go_wp2_with (first | ((with_reducible refine gate_callee (f := 34) rfl ?_); refine goesL_ (some 8) rfl rfl Try.func34 (by kernel_rfl) rfl #[.string (⟨#[45, 48]⟩ : ByteArray)] rfl (by (try simp only [List.map_toArray, List.map_cons, List.map_nil]); first | done | rfl | (simp only [List.length_drop, List.length_take]; rfl)) ?_; (with_reducible refine (ratio_Parse.calls k (⟨#[45, 48]⟩ : ByteArray) t164 true _ A1.out).mono ?_); rintro e w40 ⟨rfl, hb⟩; refine ⟨_, rfl, ?_⟩; have n0_ := Aside0.mk (below_step (by repeat (first | (with_reducible first | exact HB.out | apply below_alloc | apply pw_below_drewN | apply below_drew1) | exact HB.out)) hb); clear HB; have HB := n0_; clear n0_; (try clear hb); (try clear hb2); (try clear hk); (try clear hi)) | ((with_reducible refine gate_callee (f := 35) rfl ?_); refine goesL_ (some 12) rfl rfl Try.func35 (by kernel_rfl) rfl #[.float .f64 4602678819172646912] rfl (by (try simp only [List.map_toArray, List.map_cons, List.map_nil]); first | done | rfl | (simp only [List.length_drop, List.length_take]; rfl)) ?_; (with_reducible refine (ratio_Write.calls k 4602678819172646912 t166 true _ A2.out).mono ?_); rintro e w41 ⟨rfl, hb⟩; refine ⟨_, rfl, ?_⟩; have n0_ := Aside0.mk (below_step (by repeat (first | (with_reducible first | exact HB.out | apply below_alloc | apply pw_below_drewN | apply below_drew1) | exact HB.out)) hb); clear HB; have HB := n0_; clear n0_; (try clear hb); (try clear hb2); (try clear hk); (try clear hi)) | ((with_reducible refine gate_callee (f := 34) rfl ?_); refine goesL_ (some 16) rfl rfl Try.func34 (by kernel_rfl) rfl #[.string (⟨#[48, 49]⟩ : ByteArray)] rfl (by (try simp only [List.map_toArray, List.map_cons, List.map_nil]); first | done | rfl | (simp only [List.length_drop, List.length_take]; rfl)) ?_; (with_reducible refine (ratio_Parse.calls k (⟨#[48, 49]⟩ : ByteArray) t168 false _ A3.out).mono ?_); rintro e w42 ⟨rfl, hb⟩; refine ⟨_, rfl, ?_⟩; have n0_ := Aside0.mk (below_step (by repeat (first | (with_reducible first | exact HB.out | apply below_alloc | apply pw_below_drewN | apply below_drew1) | exact HB.out)) hb); clear HB; have HB := n0_; clear n0_; (try clear hb); (try clear hb2); (try clear hk); (try clear hi)) | ((with_reducible refine gate_callee (f := 21) rfl ?_); refine goesL_ (some 19) rfl rfl Try.func21 (by kernel_rfl) rfl #[.int .i64 0, .int .i64 0] rfl (by (try simp only [List.map_toArray, List.map_cons, List.map_nil]); first | done | rfl | (simp only [List.length_drop, List.length_take]; rfl)) ?_; (with_reducible refine (ratio_Of.calls 0 0 t170 _ A4.out).mono ?_); rintro e w' ⟨zt170, hsz_t1700, rfl, ⟨nd, rfl⟩⟩; have hsz_t170 := Aside0.mk hsz_t1700; clear hsz_t1700; refine ⟨_, rfl, ?_⟩) | ((with_reducible refine gate_callee (f := 23) rfl ?_); refine goesL_ (some 20) rfl rfl Try.func23 (by kernel_rfl) rfl #[.float .f64 zt170] rfl (by (try simp only [List.map_toArray, List.map_cons, List.map_nil]); first | done | rfl | (simp only [List.length_drop, List.length_take]; rfl)) ?_; (with_reducible refine (math_IsNaN.calls zt170 true _ (math_IsNaN.sim hsz_t170.out A5.out)).mono ?_); rintro e w' ⟨rfl, ⟨nd, rfl⟩⟩; refine ⟨_, rfl, ?_⟩) | (go_at_call 21; (with_reducible refine (ratio_Of.calls 0 0 t172 _ A7.out).mono ?_); rintro e w' ⟨zt172, hsz_t1720, rfl, ⟨nd, rfl⟩⟩; have hsz_t172 := Aside0.mk hsz_t1720; clear hsz_t1720) | (go_at_call 37; (with_reducible refine (ratio_Text.calls k zt172 t173 _ (ratio_Text.sim hsz_t172.out A8.out)).mono ?_); rintro e w43 ⟨rfl, hb⟩; have n0_ := Aside0.mk (below_step (by repeat (first | (with_reducible first | exact HB.out | apply below_alloc | apply pw_below_drewN | apply below_drew1) | exact HB.out)) hb); clear HB; have HB := n0_; clear n0_; (try clear hb); (try clear hb2); (try clear hk); (try clear hi)) | (go_at_call 32; (with_reducible refine (ratio_Near.calls k 10 4605380978949069210 t174 _ A10.out).mono ?_); rintro e w44 ⟨rfl, hb⟩; have n0_ := Aside0.mk (below_step (by repeat (first | (with_reducible first | exact HB.out | apply below_alloc | apply pw_below_drewN | apply below_drew1) | exact HB.out)) hb); clear HB; have HB := n0_; clear n0_; (try clear hb); (try clear hb2); (try clear hk); (try clear hi)) | (go_at_call 26; (with_reducible refine (math_Signbit.calls t164 true _ A14.out).mono ?_); rintro e w' ⟨rfl, ⟨nd, rfl⟩⟩) | (go_at_call 37; (with_reducible refine (ratio_Text.calls k t164 t176 _ A16.out).mono ?_); rintro e w45 ⟨rfl, hb⟩; have n0_ := Aside0.mk (below_step (by repeat (first | (with_reducible first | exact HB.out | apply below_alloc | apply pw_below_drewN | apply below_drew1) | exact HB.out)) hb); clear HB; have HB := n0_; clear n0_; (try clear hb); (try clear hb2); (try clear hk); (try clear hi)) | (go_at_call 28; (with_reducible refine (ratio_Order.calls t164 0 t177 _ A27.out).mono ?_); rintro e w' ⟨rfl, ⟨nd, rfl⟩⟩) | (go_at_call 30; (with_reducible refine (ratio_Same.calls t164 0 false _ A29.out).mono ?_); rintro e w' ⟨rfl, ⟨nd, rfl⟩⟩) | (go_at_call 33; (with_reducible refine (math_NaN.calls  t179 _ A37.out).mono ?_); rintro e w' ⟨rfl, ⟨nd, rfl⟩⟩) | (go_at_call 33; (with_reducible refine (math_NaN.calls  t180 _ A38.out).mono ?_); rintro e w' ⟨rfl, ⟨nd, rfl⟩⟩) | (go_at_call 30; (with_reducible refine (ratio_Same.calls t179 t179 t181 _ (math_NaN.two A37.out A38.out A39.out)).mono ?_); rintro e w' ⟨rfl, ⟨nd, rfl⟩⟩))
                               go_ret
                               exact ⟨by first | rfl | (simp [errW_none, errW_some] <;> rfl) | (simp [*, errW_none, errW_some] <;> rfl), by repeat (first | (with_reducible first | exact HB.out | apply below_alloc | apply pw_below_drewN | apply below_drew1) | exact HB.out)⟩)
                      · rw [if_neg c28] at H
                        have c28b0 : (t177 == (-1)) = false := beq_eq_false_iff_ne.mpr c28
                        have c28b1 : (t177 != (-1)) = true := bne_iff_ne.mpr c28
                        exact absurd ((Option.some.inj H).trans hr_) (by decide)
                  · replace c19 := Bool.eq_false_iff.mpr c19
                    subst c19
                    have H1 : (some false) = some r := by rw [if_neg (show ¬ (false = true) by decide)] at H; exact H
                    clear H
                    have H := H1
                    clear H1
                    exact absurd ((Option.some.inj H).trans hr_) (by decide)
                · rw [if_neg c18] at H
                  have c18b0 : (t166.toList == ([48, 46, 53] : List UInt8)) = false := beq_eq_false_iff_ne.mpr c18
                  have c18b1 : (t166.toList != ([48, 46, 53] : List UInt8)) = true := bne_iff_ne.mpr c18
                  exact absurd ((Option.some.inj H).trans hr_) (by decide)
              · rw [if_neg c17] at H
                have c17b0 : (t176.toList == ([45, 48, 46, 48, 48, 48] : List UInt8)) = false := beq_eq_false_iff_ne.mpr c17
                have c17b1 : (t176.toList != ([45, 48, 46, 48, 48, 48] : List UInt8)) = true := bne_iff_ne.mpr c17
                exact absurd ((Option.some.inj H).trans hr_) (by decide)
            · replace c15 := Bool.eq_false_iff.mpr c15
              subst c15
              have H1 : (some false) = some r := by rw [if_neg (show ¬ (false = true) by decide)] at H; exact H
              clear H
              have H := H1
              clear H1
              exact absurd ((Option.some.inj H).trans hr_) (by decide)
          · rw [if_neg c13] at H
            have c13b0 : (feq t164 0) = false := by simpa using c13
            clear c13
            exact absurd ((Option.some.inj H).trans hr_) (by decide)
        · replace c12 := Bool.eq_false_iff.mpr c12
          subst c12
          have H1 : (some false) = some r := by rw [if_neg (show ¬ (false = true) by decide)] at H; exact H
          clear H
          have H := H1
          clear H1
          exact absurd ((Option.some.inj H).trans hr_) (by decide)
      · rw [if_neg c11] at H
        have c11b0 : (t174 == 8) = false := beq_eq_false_iff_ne.mpr c11
        have c11b1 : (t174 != 8) = true := bne_iff_ne.mpr c11
        exact absurd ((Option.some.inj H).trans hr_) (by decide)
    · rw [if_neg c9] at H
      have c9b0 : (t173.toList == ([110, 97, 110] : List UInt8)) = false := beq_eq_false_iff_ne.mpr c9
      have c9b1 : (t173.toList != ([110, 97, 110] : List UInt8)) = true := bne_iff_ne.mpr c9
      exact absurd ((Option.some.inj H).trans hr_) (by decide)
  · replace c6 := Bool.eq_false_iff.mpr c6
    subst c6
    have H1 : (some false) = some r := by rw [if_neg (show ¬ (false = true) by decide)] at H; exact H
    clear H
    have H := H1
    clear H1
    exact absurd ((Option.some.inj H).trans hr_) (by decide)
def turncocklaw5_awake.f (k : Nat) : Option (Bool) := if turncocklaw5_awake.g k = some true then some true else none
theorem turncocklaw5_awake.mono : ∀ k, LeO (turncocklaw5_awake.f k ) (turncocklaw5_awake.f (k + 1) ) := by
  intro k r h
  unfold turncocklaw5_awake.f at h ⊢
  split at h
  · rename_i hg; rw [if_pos (turncocklaw5_awake.gmono k _ hg)]; exact h
  · cases h
theorem turncocklaw5_awake.calls (k : Nat) (r : Bool) (w : World) (h : turncocklaw5_awake.f k = some r) :
    Calls Try.prog 24 #[] w fun e w' => e = .returned (.bool r) ∧ Below w.heap.size w w' := by
  unfold turncocklaw5_awake.f at h
  split at h
  · rename_i hg; obtain rfl := Option.some.inj h; exact turncocklaw5_awake.gcalls k true w hg rfl
  · cases h

/-! ### turncocklaw5_of: function 27 (my own) -/
def turncocklaw5_of.f (a0 : Int) : Option (Nat) := some a0.toNat
set_option maxRecDepth 100000 in
theorem turncocklaw5_of.calls (a0 : Int) (r : Nat) (w : World) (h : turncocklaw5_of.f a0 = some r) :
    Calls Try.prog 27 #[.int .u64 a0] w fun e w' => e = .returned (.float .f64 r) ∧ Drawn0 w w' := by
  obtain rfl := Option.some.inj h
  clear h
  go_enter Try.func27, Try.ntmps27
  go_wp2
  go_ret
  exact ⟨by first | rfl | simp, by repeat (first | exact Drawn0.refl _ | apply Drawn0.step)⟩

/-! ### turncocklaw5_RatioRises: function 9 -/
def turncocklaw5_RatioRises.j0 : Nat → Int → Int → Nat → Nat → Bool → Option (Bool)
  | 0, _, _, _, _, _ => none
  | k + 1, x0, x1, x9, x10, x20 => if x20 = true then ((math_NaN.f).bind fun t186 => ((ratio_Near.f k x0 t186).bind fun t187 => (if t187 = (mx (mn x0 4294967295) 0) then ((turncocklaw5_awake.f k).bind fun t188 => (some t188)) else (some false)))) else (if (fordOk x9 x10) = true then ((ratio_Near.f k (mn x0 x1) (fmin x9 x10)).bind fun t189 => ((ratio_Near.f k (mx x0 x1) (fmax x9 x10)).bind fun t190 => (if t189 ≤ t190 then ((turncocklaw5_awake.f k).bind fun t191 => (some t191)) else (some false)))) else (none))
def turncocklaw5_RatioRises.f (k : Nat) (a0 : Int) (a1 : Int) (a2 : Int) (a3 : Int) : Option (Bool) := (turncocklaw5_of.f a2).bind fun t182 => ((turncocklaw5_of.f a3).bind fun t183 => ((math_IsNaN.f t182).bind fun t184 => (if t184 = true then (turncocklaw5_RatioRises.j0 k a0 a1 t182 t183 true) else ((math_IsNaN.f t183).bind fun t185 => (turncocklaw5_RatioRises.j0 k a0 a1 t182 t183 t185)))))
theorem turncocklaw5_RatioRises.mono_l : ∀ k, (∀ y0 y1 y2 y3 y4, LeO (turncocklaw5_RatioRises.j0 k y0 y1 y2 y3 y4) (turncocklaw5_RatioRises.j0 (k + 1) y0 y1 y2 y3 y4))
  | 0 => fun _ _ _ _ _ r h => by simp [turncocklaw5_RatioRises.j0] at h
  | k + 1 => by
    have ih0 := turncocklaw5_RatioRises.mono_l k
    · intro y0 y1 y2 y3 y4
      unfold turncocklaw5_RatioRises.j0
      repeat' first
      | (with_reducible exact ih0 _ _ _ _ _)
      | (with_reducible exact ratio_Near.mono _ _ _)
      | (with_reducible exact turncocklaw5_awake.mono _)
      | (with_reducible exact LeO.refl _)
      | (with_reducible exact LeO.none _)
      | (with_reducible refine LeO.ite ?_ ?_)
      | (with_reducible refine LeO.bind ?_ (fun _ => ?_))
      | exact ih0 _ _ _ _ _
      | exact ratio_Near.mono _ _ _
      | exact turncocklaw5_awake.mono _
      | exact LeO.none _
      | refine LeO.ite ?_ ?_
      | refine LeO.bind ?_ (fun _ => ?_)
theorem turncocklaw5_RatioRises.mono : ∀ a0 a1 a2 a3 k, LeO (turncocklaw5_RatioRises.f k a0 a1 a2 a3) (turncocklaw5_RatioRises.f (k + 1) a0 a1 a2 a3) := by
  intro a0 a1 a2 a3 k
  have ih0 := turncocklaw5_RatioRises.mono_l k
  unfold turncocklaw5_RatioRises.f
  repeat' first
      | (with_reducible exact ih0 _ _ _ _ _)
      | (with_reducible exact ratio_Near.mono _ _ _)
      | (with_reducible exact turncocklaw5_awake.mono _)
      | (with_reducible exact LeO.refl _)
      | (with_reducible exact LeO.none _)
      | (with_reducible refine LeO.ite ?_ ?_)
      | (with_reducible refine LeO.bind ?_ (fun _ => ?_))
      | exact ih0 _ _ _ _ _
      | exact ratio_Near.mono _ _ _
      | exact turncocklaw5_awake.mono _
      | exact LeO.none _
      | refine LeO.ite ?_ ?_
      | refine LeO.bind ?_ (fun _ => ?_)
set_option maxHeartbeats 8000000 in
set_option maxRecDepth 100000 in
theorem turncocklaw5_RatioRises.calls (k : Nat) (a0 : Int) (a1 : Int) (a2 : Int) (a3 : Int) (r : Bool) (w : World) (h : turncocklaw5_RatioRises.f k a0 a1 a2 a3 = some r) (hr_ : r = true) :
    Calls Try.prog 9 #[.int .i64 a0, .int .i64 a1, .int .u64 a2, .int .u64 a3] w fun e w' => e = .returned (.bool r) ∧ Below w.heap.size w w' := by
  have HB := Aside0.mk (Below.refl w.heap.size w)
  have H : ((turncocklaw5_of.f a2).bind fun t182 => ((turncocklaw5_of.f a3).bind fun t183 => ((math_IsNaN.f t182).bind fun t184 => (if t184 = true then (turncocklaw5_RatioRises.j0 k a0 a1 t182 t183 true) else ((math_IsNaN.f t183).bind fun t185 => (turncocklaw5_RatioRises.j0 k a0 a1 t182 t183 t185)))))) = some r := h
  clear h
  replace H := Option.bind_eq_some_iff.mp H
  obtain ⟨t182, A50, H⟩ := H
  replace H : ((turncocklaw5_of.f a3).bind fun t183 => ((math_IsNaN.f t182).bind fun t184 => (if t184 = true then (turncocklaw5_RatioRises.j0 k a0 a1 t182 t183 true) else ((math_IsNaN.f t183).bind fun t185 => (turncocklaw5_RatioRises.j0 k a0 a1 t182 t183 t185))))) = some r := H
  have A5 := Aside0.mk A50
  clear A50
  replace H := Option.bind_eq_some_iff.mp H
  obtain ⟨t183, A60, H⟩ := H
  replace H : ((math_IsNaN.f t182).bind fun t184 => (if t184 = true then (turncocklaw5_RatioRises.j0 k a0 a1 t182 t183 true) else ((math_IsNaN.f t183).bind fun t185 => (turncocklaw5_RatioRises.j0 k a0 a1 t182 t183 t185)))) = some r := H
  have A6 := Aside0.mk A60
  clear A60
  have HC7 := Aside0.mk H
  clear H
  go_enter Try.func9, Try.ntmps9
  go_upto_region 2 with (first | ((with_reducible refine gate_callee (f := 27) rfl ?_); refine goesL_ (some 12) rfl rfl Try.func27 (by kernel_rfl) rfl #[.int .u64 a2] rfl (by (try simp only [List.map_toArray, List.map_cons, List.map_nil]); first | done | rfl | (simp only [List.length_drop, List.length_take]; rfl)) ?_; (with_reducible refine (turncocklaw5_of.calls a2 t182 _ A5.out).mono ?_); rintro e w' ⟨rfl, ⟨nd, rfl⟩⟩; refine ⟨_, rfl, ?_⟩) | ((with_reducible refine gate_callee (f := 27) rfl ?_); refine goesL_ (some 14) rfl rfl Try.func27 (by kernel_rfl) rfl #[.int .u64 a3] rfl (by (try simp only [List.map_toArray, List.map_cons, List.map_nil]); first | done | rfl | (simp only [List.length_drop, List.length_take]; rfl)) ?_; (with_reducible refine (turncocklaw5_of.calls a3 t183 _ A6.out).mono ?_); rintro e w' ⟨rfl, ⟨nd, rfl⟩⟩; refine ⟨_, rfl, ?_⟩))
  (try simp only [Act.put, List.setIfInBounds_toArray, List.set_cons_zero, List.set_cons_succ])
  go_cut [20] (fun v20 wc => ∃ (kq : Nat) (x20_6 : Bool), v20 = .bool x20_6 ∧ Aside0 (turncocklaw5_RatioRises.j0 kq a0 a1 t182 t183 x20_6 = some r) ∧ Aside0 (kq ≤ k) ∧ Aside0 (Below w.heap.size w wc))
  case first =>
    have H := HC7.out
    clear HC7
    replace H := Option.bind_eq_some_iff.mp H
    obtain ⟨t184, A80, H⟩ := H
    replace H : (if t184 = true then (turncocklaw5_RatioRises.j0 k a0 a1 t182 t183 true) else ((math_IsNaN.f t183).bind fun t185 => (turncocklaw5_RatioRises.j0 k a0 a1 t182 t183 t185))) = some r := H
    have A8 := Aside0.mk A80
    clear A80
    by_cases c9 : t184 = true
    · subst c9
      have H1 : (turncocklaw5_RatioRises.j0 k a0 a1 t182 t183 true) = some r := by rw [if_pos rfl] at H; exact H
      clear H
      have H := H1
      clear H1
      have H' := Aside0.mk H
      clear H
      go_wp2_with (first | ((with_reducible refine gate_callee (f := 23) rfl ?_); refine goesL_ (some 16) rfl rfl Try.func23 (by kernel_rfl) rfl #[.float .f64 t182] rfl (by (try simp only [List.map_toArray, List.map_cons, List.map_nil]); first | done | rfl | (simp only [List.length_drop, List.length_take]; rfl)) ?_; (with_reducible refine (math_IsNaN.calls t182 true _ A8.out).mono ?_); rintro e w' ⟨rfl, ⟨nd, rfl⟩⟩; refine ⟨_, rfl, ?_⟩))
      go_meet
      case rel => exact ⟨_, (true), (by first | rfl | (simp; done) | (simp [*]; done)), H', ⟨by first | omega | exact Nat.le_refl _⟩, ⟨by repeat (first | (with_reducible first | exact HB.out | apply below_alloc | apply pw_below_drewN | apply below_drew1) | exact HB.out)⟩⟩
    · replace c9 := Bool.eq_false_iff.mpr c9
      subst c9
      have H1 : ((math_IsNaN.f t183).bind fun t185 => (turncocklaw5_RatioRises.j0 k a0 a1 t182 t183 t185)) = some r := by rw [if_neg (show ¬ (false = true) by decide)] at H; exact H
      clear H
      have H := H1
      clear H1
      replace H := Option.bind_eq_some_iff.mp H
      obtain ⟨t185, A100, H⟩ := H
      replace H : (turncocklaw5_RatioRises.j0 k a0 a1 t182 t183 t185) = some r := H
      have A10 := Aside0.mk A100
      clear A100
      have H' := Aside0.mk H
      clear H
      go_wp2_with (first | ((with_reducible refine gate_callee (f := 23) rfl ?_); refine goesL_ (some 16) rfl rfl Try.func23 (by kernel_rfl) rfl #[.float .f64 t182] rfl (by (try simp only [List.map_toArray, List.map_cons, List.map_nil]); first | done | rfl | (simp only [List.length_drop, List.length_take]; rfl)) ?_; (with_reducible refine (math_IsNaN.calls t182 false _ A8.out).mono ?_); rintro e w' ⟨rfl, ⟨nd, rfl⟩⟩; refine ⟨_, rfl, ?_⟩) | (go_at_call 23; (with_reducible refine (math_IsNaN.calls t183 t185 _ A10.out).mono ?_); rintro e w' ⟨rfl, ⟨nd, rfl⟩⟩))
      go_meet
      case rel => exact ⟨_, (t185), (by first | rfl | (simp; done) | (simp [*]; done)), H', ⟨by first | omega | exact Nat.le_refl _⟩, ⟨by repeat (first | (with_reducible first | exact HB.out | apply below_alloc | apply pw_below_drewN | apply below_drew1) | exact HB.out)⟩⟩
  case rest =>
    clear HC7
    try clear c2
    try clear p2
    try clear c9
    obtain ⟨kq, x20_6, rfl, HA, HJ6, HB⟩ := hcut
    cases kq with
    | zero => exact absurd HA.out (by simp [turncocklaw5_RatioRises.j0])
    | succ kj6 =>
      have H := HA.out
      clear HA
      simp only [turncocklaw5_RatioRises.j0] at H
      by_cases c11 : x20_6 = true
      · subst c11
        have H1 : ((math_NaN.f).bind fun t186 => ((ratio_Near.f kj6 a0 t186).bind fun t187 => (if t187 = (mx (mn a0 4294967295) 0) then ((turncocklaw5_awake.f kj6).bind fun t188 => (some t188)) else (some false)))) = some r := by rw [if_pos rfl] at H; exact H
        clear H
        have H := H1
        clear H1
        replace H := Option.bind_eq_some_iff.mp H
        obtain ⟨t186, A120, H⟩ := H
        replace H : ((ratio_Near.f kj6 a0 t186).bind fun t187 => (if t187 = (mx (mn a0 4294967295) 0) then ((turncocklaw5_awake.f kj6).bind fun t188 => (some t188)) else (some false))) = some r := H
        have A12 := Aside0.mk A120
        clear A120
        replace H := Option.bind_eq_some_iff.mp H
        obtain ⟨t187, A130, H⟩ := H
        replace H : (if t187 = (mx (mn a0 4294967295) 0) then ((turncocklaw5_awake.f kj6).bind fun t188 => (some t188)) else (some false)) = some r := H
        have A13 := Aside0.mk A130
        clear A130
        obtain ⟨ji14, hji14⟩ : ∃ j_ : Int, (mn a0 4294967295) = j_ := ⟨_, rfl⟩
        replace H : (if t187 = (mx (ji14) 0) then ((turncocklaw5_awake.f kj6).bind fun t188 => (some t188)) else (some false)) = some r := by first | (rw [hji14] at H; exact H) | (simp only [hji14] at H ⊢; exact H)
        (try rw [hji14] at A12)
        (try rw [hji14] at A13)
        have hji14_ : (if 4294967295 < a0 then 4294967295 else a0) = ji14 := hji14
        obtain ⟨ji15, hji15⟩ : ∃ j_ : Int, (mx (ji14) 0) = j_ := ⟨_, rfl⟩
        replace H : (if t187 = (ji15) then ((turncocklaw5_awake.f kj6).bind fun t188 => (some t188)) else (some false)) = some r := by first | (rw [hji15] at H; exact H) | (simp only [hji15] at H ⊢; exact H)
        (try rw [hji15] at A12)
        (try rw [hji15] at A13)
        have hji15_ : (if (ji14) < 0 then 0 else (ji14)) = ji15 := hji15
        by_cases c16 : t187 = (ji15)
        · rw [if_pos c16] at H
          have c16b0 : (t187 == (ji15)) = true := beq_iff_eq.mpr c16
          have c16b1 : (t187 != (ji15)) = false := bne_eq_false_iff_eq.mpr c16
          clear c16
          replace H := Option.bind_eq_some_iff.mp H
          obtain ⟨t188, A170, H⟩ := H
          replace H : (some t188) = some r := H
          have A17 := Aside0.mk A170
          clear A170
          first
            | exact absurd ((Option.some.inj H).trans hr_) (by decide)
            | (obtain rfl := Option.some.inj H
               clear hr_
               go_wp2_with (first | ((with_reducible refine gate_callee (f := 33) rfl ?_); refine goesL_ (some 22) rfl rfl Try.func33 (by kernel_rfl) rfl #[] rfl (by (try simp only [List.map_toArray, List.map_cons, List.map_nil]); first | done | rfl | (simp only [List.length_drop, List.length_take]; rfl)) ?_; (with_reducible refine (math_NaN.calls  t186 _ A12.out).mono ?_); rintro e w' ⟨rfl, ⟨nd, rfl⟩⟩; refine ⟨_, rfl, ?_⟩) | ((with_reducible refine gate_callee (f := 32) rfl ?_); refine goesL_ (some 23) rfl rfl Try.func32 (by kernel_rfl) rfl #[.int .i64 a0, .float .f64 t186] rfl (by (try simp only [List.map_toArray, List.map_cons, List.map_nil]); first | done | rfl | (simp only [List.length_drop, List.length_take]; rfl)) ?_; (with_reducible refine (ratio_Near.calls kj6 a0 t186 t187 _ A13.out).mono ?_); rintro e w18 ⟨rfl, hb⟩; refine ⟨_, rfl, ?_⟩; have n0_ := Aside0.mk (below_step (by repeat (first | (with_reducible first | exact HB.out | apply below_alloc | apply pw_below_drewN | apply below_drew1) | exact HB.out)) hb); clear HB; have HB := n0_; clear n0_; (try clear hb); (try clear hb2); (try clear hk); (try clear hi)) | (go_at_call 24; (with_reducible refine (turncocklaw5_awake.calls kj6  t188 _ A17.out).mono ?_); rintro e w19 ⟨rfl, hb⟩; have n0_ := Aside0.mk (below_step (by repeat (first | (with_reducible first | exact HB.out | apply below_alloc | apply pw_below_drewN | apply below_drew1) | exact HB.out)) hb); clear HB; have HB := n0_; clear n0_; (try clear hb); (try clear hb2); (try clear hk); (try clear hi)))
               go_ret
               exact ⟨by first | rfl | (simp [errW_none, errW_some] <;> rfl) | (simp only [← hji14, ← hji15]; first | rfl | (simp [errW_none, errW_some] <;> rfl)) | (simp [*, errW_none, errW_some] <;> rfl), by repeat (first | (with_reducible first | exact HB.out | apply below_alloc | apply pw_below_drewN | apply below_drew1) | exact HB.out)⟩)
        · rw [if_neg c16] at H
          have c16b0 : (t187 == (ji15)) = false := beq_eq_false_iff_ne.mpr c16
          have c16b1 : (t187 != (ji15)) = true := bne_iff_ne.mpr c16
          exact absurd ((Option.some.inj H).trans hr_) (by decide)
      · replace c11 := Bool.eq_false_iff.mpr c11
        subst c11
        have H1 : (if (fordOk t182 t183) = true then ((ratio_Near.f kj6 (mn a0 a1) (fmin t182 t183)).bind fun t189 => ((ratio_Near.f kj6 (mx a0 a1) (fmax t182 t183)).bind fun t190 => (if t189 ≤ t190 then ((turncocklaw5_awake.f kj6).bind fun t191 => (some t191)) else (some false)))) else (none)) = some r := by rw [if_neg (show ¬ (false = true) by decide)] at H; exact H
        clear H
        have H := H1
        clear H1
        obtain ⟨ji21, hji21⟩ : ∃ j_ : Int, (mn a0 a1) = j_ := ⟨_, rfl⟩
        replace H : (if (fordOk t182 t183) = true then ((ratio_Near.f kj6 (ji21) (fmin t182 t183)).bind fun t189 => ((ratio_Near.f kj6 (mx a0 a1) (fmax t182 t183)).bind fun t190 => (if t189 ≤ t190 then ((turncocklaw5_awake.f kj6).bind fun t191 => (some t191)) else (some false)))) else (none)) = some r := by first | (rw [hji21] at H; exact H) | (simp only [hji21] at H ⊢; exact H)
        have hji21_ : (if a1 < a0 then a1 else a0) = ji21 := hji21
        by_cases c22 : (fordOk t182 t183) = true
        · rw [if_pos c22] at H
          have c22b0 := eq_true c22
          have c22b1 : decide ((fordOk t182 t183) = true) = true := decide_eq_true c22
          clear c22
          replace H := Option.bind_eq_some_iff.mp H
          obtain ⟨t189, A230, H⟩ := H
          replace H : ((ratio_Near.f kj6 (mx a0 a1) (fmax t182 t183)).bind fun t190 => (if t189 ≤ t190 then ((turncocklaw5_awake.f kj6).bind fun t191 => (some t191)) else (some false))) = some r := H
          have A23 := Aside0.mk A230
          clear A230
          obtain ⟨ji24, hji24⟩ : ∃ j_ : Int, (mx a0 a1) = j_ := ⟨_, rfl⟩
          replace H : ((ratio_Near.f kj6 (ji24) (fmax t182 t183)).bind fun t190 => (if t189 ≤ t190 then ((turncocklaw5_awake.f kj6).bind fun t191 => (some t191)) else (some false))) = some r := by first | (rw [hji24] at H; exact H) | (simp only [hji24] at H ⊢; exact H)
          (try rw [hji24] at A23)
          have hji24_ : (if a0 < a1 then a1 else a0) = ji24 := hji24
          replace H := Option.bind_eq_some_iff.mp H
          obtain ⟨t190, A250, H⟩ := H
          replace H : (if t189 ≤ t190 then ((turncocklaw5_awake.f kj6).bind fun t191 => (some t191)) else (some false)) = some r := H
          have A25 := Aside0.mk A250
          clear A250
          by_cases c26 : t189 ≤ t190
          · rw [if_pos c26] at H
            have c26b0 : decide (t189 ≤ t190) = true := decide_eq_true c26
            clear c26
            replace H := Option.bind_eq_some_iff.mp H
            obtain ⟨t191, A270, H⟩ := H
            replace H : (some t191) = some r := H
            have A27 := Aside0.mk A270
            clear A270
            first
              | exact absurd ((Option.some.inj H).trans hr_) (by decide)
              | (obtain rfl := Option.some.inj H
                 clear hr_
                 go_wp2_with (first | ((with_reducible refine gate_callee (f := 32) rfl ?_); refine goesL_ (some 37) rfl rfl Try.func32 (by kernel_rfl) rfl #[.int .i64 ji21, .float .f64 (fmin t182 t183)] rfl (by (try simp only [List.map_toArray, List.map_cons, List.map_nil]); first | done | (simp only [hji21]; rfl) | rfl | (simp only [List.length_drop, List.length_take]; rfl)) ?_; (with_reducible refine (ratio_Near.calls kj6 ji21 (fmin t182 t183) t189 _ A23.out).mono ?_); rintro e w28 ⟨rfl, hb⟩; refine ⟨_, rfl, ?_⟩; have n0_ := Aside0.mk (below_step (by repeat (first | (with_reducible first | exact HB.out | apply below_alloc | apply pw_below_drewN | apply below_drew1) | exact HB.out)) hb); clear HB; have HB := n0_; clear n0_; (try clear hb); (try clear hb2); (try clear hk); (try clear hi)) | ((with_reducible refine gate_callee (f := 32) rfl ?_); refine goesL_ (some 44) rfl rfl Try.func32 (by kernel_rfl) rfl #[.int .i64 ji24, .float .f64 (fmax t182 t183)] rfl (by (try simp only [List.map_toArray, List.map_cons, List.map_nil]); first | done | (simp only [hji24]; rfl) | rfl | (simp only [List.length_drop, List.length_take]; rfl)) ?_; (with_reducible refine (ratio_Near.calls kj6 ji24 (fmax t182 t183) t190 _ A25.out).mono ?_); rintro e w29 ⟨rfl, hb⟩; refine ⟨_, rfl, ?_⟩; have n0_ := Aside0.mk (below_step (by repeat (first | (with_reducible first | exact HB.out | apply below_alloc | apply pw_below_drewN | apply below_drew1) | exact HB.out)) hb); clear HB; have HB := n0_; clear n0_; (try clear hb); (try clear hb2); (try clear hk); (try clear hi)) | (go_at_call 24; (with_reducible refine (turncocklaw5_awake.calls kj6  t191 _ A27.out).mono ?_); rintro e w30 ⟨rfl, hb⟩; have n0_ := Aside0.mk (below_step (by repeat (first | (with_reducible first | exact HB.out | apply below_alloc | apply pw_below_drewN | apply below_drew1) | exact HB.out)) hb); clear HB; have HB := n0_; clear n0_; (try clear hb); (try clear hb2); (try clear hk); (try clear hi)))
                 go_ret
                 exact ⟨by first | rfl | (simp [errW_none, errW_some] <;> rfl) | (simp only [← hji21, ← hji24]; first | rfl | (simp [errW_none, errW_some] <;> rfl)) | (simp [*, errW_none, errW_some] <;> rfl), by repeat (first | (with_reducible first | exact HB.out | apply below_alloc | apply pw_below_drewN | apply below_drew1) | exact HB.out)⟩)
          · rw [if_neg c26] at H
            have c26b0 : decide (t189 ≤ t190) = false := decide_eq_false c26
            clear c26
            exact absurd ((Option.some.inj H).trans hr_) (by decide)
        · rw [if_neg c22] at H
          exact absurd H (by simp)

/-- THE ONE PURE STATEMENT of turncocklaw5_RatioRises: yours. -/
def turncocklaw5_RatioRises.Pure : Prop := ∀ (a0 : Int) (a1 : Int) (a2 : Int) (a3 : Int), (Lit.int .i64 a0).wf = true → (Lit.int .i64 a1).wf = true → (Lit.int .u64 a2).wf = true → (Lit.int .u64 a3).wf = true → ∃ k, turncocklaw5_RatioRises.f k a0 a1 a2 a3 = some true
theorem turncocklaw5_RatioRises.walk (P : turncocklaw5_RatioRises.Pure) (a0 : Int) (a1 : Int) (a2 : Int) (a3 : Int) (w : World) (w0 : (Lit.int .i64 a0).wf = true) (w1 : (Lit.int .i64 a1).wf = true) (w2 : (Lit.int .u64 a2).wf = true) (w3 : (Lit.int .u64 a3).wf = true) :
    Calls Try.prog 9 #[.int .i64 a0, .int .i64 a1, .int .u64 a2, .int .u64 a3] w fun e w' => e = .returned (.bool true) ∧ Below w.heap.size w w' := by
  obtain ⟨k, h⟩ := P a0 a1 a2 a3 w0 w1 w2 w3
  refine (turncocklaw5_RatioRises.calls k a0 a1 a2 a3 true w h rfl).mono ?_
  rintro e w' ⟨rfl, hd⟩
  exact ⟨rfl, hd⟩

end Go.Proofs.Ytoopmkinpandfaa.PRatioRises
