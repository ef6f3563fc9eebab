-- WRITTEN BY THIS SESSION'S mprint.py upon the print: some functions are proved by hand
import Derived.Test.YtoopmkinpandfaaPRatioOrderx0
import Derived.Test.YtoopmkinpandfaaPRatioOrderx1
import Derived.Test.YtoopmkinpandfaaPRatioOrderx2
import Derived.Test.YtoopmkinpandfaaPRatioOrderx3
import Derived.Test.YtoopmkinpandfaaPRatioOrderx4
namespace Go.Proofs.Ytoopmkinpandfaa.PRatioOrder
open Go.RowKit Go.Proofs.YtoopmkinpandfaaW.PrintWords Go.Proofs.YtoopmkinpandfaaW.PrintLast Go.Proofs.YtoopmkinpandfaaW.PrintMore
attribute [local go_sem] max2_int min2_int max_two min_two max_three min_three max_four min_four   -- for this text's walks alone
set_option linter.unusedVariables false
set_option linter.unusedSimpArgs false

/-! ### turncocklaw5_awake: function 24 -/
theorem math_IsNaN.sim {z t : Nat} {r : Bool} (h : fsim z t) (e : math_IsNaN.f t = some r) : math_IsNaN.f z = some r := by
  rcases h with rfl | ⟨h1, h2⟩
  · exact e
  · unfold math_IsNaN.f at *
    rw [fne_nan h1]
    rw [fne_nan h2] at e
    exact e
theorem math_NaN.two {a b : Nat} {r : Bool} (h1 : math_NaN.f = some a) (h2 : math_NaN.f = some b) (h : ratio_Same.f a b = some r) : ratio_Same.f a a = some r := by
  have e : a = b := Option.some.inj (h1.symm.trans h2)
  rw [← e] at h; exact h
theorem ratio_Text.sim {k z t : Nat} {r : ByteArray} (h : fsim z t) (e : ratio_Text.f k t = some r) : ratio_Text.f k z = some r := by
  rcases h with rfl | ⟨h1, h2⟩
  · exact e
  · unfold ratio_Text.f math_IsNaN.f at *
    rw [fne_nan h1, Option.bind_some, if_pos rfl]
    rw [fne_nan h2, Option.bind_some, if_pos rfl] at e
    exact e
def turncocklaw5_awake.g (k : Nat)  : Option (Bool) := (ratio_Parse.f k (⟨#[45, 48]⟩ : ByteArray)).bind fun bt164 => ((ratio_Write.f k 4602678819172646912).bind fun bt166 => ((ratio_Parse.f k (⟨#[48, 49]⟩ : ByteArray)).bind fun bt168 => ((ratio_Of.f 0 0).bind fun t170 => ((math_IsNaN.f t170).bind fun t171 => (if t171 = true then ((ratio_Of.f 0 0).bind fun t172 => ((ratio_Text.f k t172).bind fun t173 => (if t173.toList = ([110, 97, 110] : List UInt8) then ((ratio_Near.f k 10 4605380978949069210).bind fun t174 => (if t174 = 8 then (if bt164.2 = true then (if (feq bt164.1 0) = true then ((math_Signbit.f bt164.1).bind fun t175 => (if t175 = true then ((ratio_Text.f k bt164.1).bind fun t176 => (if t176.toList = ([45, 48, 46, 48, 48, 48] : List UInt8) then (if bt166.1.toList = ([48, 46, 53] : List UInt8) then (if bt166.2 = true then (if bt168.2 = true then (some false) else ((ratio_Order.f bt164.1 0).bind fun t177 => (if t177 = (-1) then ((ratio_Same.f bt164.1 0).bind fun t178 => (if t178 = true then (some false) else ((math_NaN.f).bind fun t179 => ((math_NaN.f).bind fun t180 => ((ratio_Same.f t179 t180).bind fun t181 => (some t181)))))) else (some false)))) else (some false)) else (some false)) else (some false))) else (some false))) else (some false)) else (some false)) else (some false))) else (some false)))) else (some false))))))
theorem turncocklaw5_awake.gmono : ∀ k, LeO (turncocklaw5_awake.g k ) (turncocklaw5_awake.g (k + 1) ) := by
  intro  k
  unfold turncocklaw5_awake.g
  repeat' first
      | (with_reducible exact ratio_Near.mono _ _ _)
      | (with_reducible exact ratio_Parse.mono _ _)
      | (with_reducible exact ratio_Text.mono _ _)
      | (with_reducible exact ratio_Write.mono _ _)
      | (with_reducible exact LeO.refl _)
      | (with_reducible exact LeO.none _)
      | (with_reducible refine LeO.ite ?_ ?_)
      | (with_reducible refine LeO.bind ?_ (fun _ => ?_))
      | exact ratio_Near.mono _ _ _
      | exact ratio_Parse.mono _ _
      | exact ratio_Text.mono _ _
      | exact ratio_Write.mono _ _
      | exact LeO.none _
      | refine LeO.ite ?_ ?_
      | refine LeO.bind ?_ (fun _ => ?_)
set_option maxHeartbeats 8000000 in
set_option maxRecDepth 100000 in
theorem turncocklaw5_awake.gcalls (k : Nat)  (r : Bool) (w : World) (h : turncocklaw5_awake.g k  = some r) (hr_ : r = true) :
    Calls Try.prog 24 #[] w fun e w' => e = .returned (.bool r) ∧ Below w.heap.size w w' := by
  have HB := Aside0.mk (Below.refl w.heap.size w)
  have H : ((ratio_Parse.f k (⟨#[45, 48]⟩ : ByteArray)).bind fun bt164 => ((ratio_Write.f k 4602678819172646912).bind fun bt166 => ((ratio_Parse.f k (⟨#[48, 49]⟩ : ByteArray)).bind fun bt168 => ((ratio_Of.f 0 0).bind fun t170 => ((math_IsNaN.f t170).bind fun t171 => (if t171 = true then ((ratio_Of.f 0 0).bind fun t172 => ((ratio_Text.f k t172).bind fun t173 => (if t173.toList = ([110, 97, 110] : List UInt8) then ((ratio_Near.f k 10 4605380978949069210).bind fun t174 => (if t174 = 8 then (if bt164.2 = true then (if (feq bt164.1 0) = true then ((math_Signbit.f bt164.1).bind fun t175 => (if t175 = true then ((ratio_Text.f k bt164.1).bind fun t176 => (if t176.toList = ([45, 48, 46, 48, 48, 48] : List UInt8) then (if bt166.1.toList = ([48, 46, 53] : List UInt8) then (if bt166.2 = true then (if bt168.2 = true then (some false) else ((ratio_Order.f bt164.1 0).bind fun t177 => (if t177 = (-1) then ((ratio_Same.f bt164.1 0).bind fun t178 => (if t178 = true then (some false) else ((math_NaN.f).bind fun t179 => ((math_NaN.f).bind fun t180 => ((ratio_Same.f t179 t180).bind fun t181 => (some t181)))))) else (some false)))) else (some false)) else (some false)) else (some false))) else (some false))) else (some false)) else (some false)) else (some false))) else (some false)))) else (some false))))))) = some r := h
  clear h
  replace H := Option.bind_eq_some_iff.mp H
  obtain ⟨⟨t164, t165⟩, A10, H⟩ := H
  replace H : ((ratio_Write.f k 4602678819172646912).bind fun bt166 => ((ratio_Parse.f k (⟨#[48, 49]⟩ : ByteArray)).bind fun bt168 => ((ratio_Of.f 0 0).bind fun t170 => ((math_IsNaN.f t170).bind fun t171 => (if t171 = true then ((ratio_Of.f 0 0).bind fun t172 => ((ratio_Text.f k t172).bind fun t173 => (if t173.toList = ([110, 97, 110] : List UInt8) then ((ratio_Near.f k 10 4605380978949069210).bind fun t174 => (if t174 = 8 then (if t165 = true then (if (feq t164 0) = true then ((math_Signbit.f t164).bind fun t175 => (if t175 = true then ((ratio_Text.f k t164).bind fun t176 => (if t176.toList = ([45, 48, 46, 48, 48, 48] : List UInt8) then (if bt166.1.toList = ([48, 46, 53] : List UInt8) then (if bt166.2 = true then (if bt168.2 = true then (some false) else ((ratio_Order.f t164 0).bind fun t177 => (if t177 = (-1) then ((ratio_Same.f t164 0).bind fun t178 => (if t178 = true then (some false) else ((math_NaN.f).bind fun t179 => ((math_NaN.f).bind fun t180 => ((ratio_Same.f t179 t180).bind fun t181 => (some t181)))))) else (some false)))) else (some false)) else (some false)) else (some false))) else (some false))) else (some false)) else (some false)) else (some false))) else (some false)))) else (some false)))))) = some r := H
  have A1 := Aside0.mk A10
  clear A10
  replace H := Option.bind_eq_some_iff.mp H
  obtain ⟨⟨t166, t167⟩, A20, H⟩ := H
  replace H : ((ratio_Parse.f k (⟨#[48, 49]⟩ : ByteArray)).bind fun bt168 => ((ratio_Of.f 0 0).bind fun t170 => ((math_IsNaN.f t170).bind fun t171 => (if t171 = true then ((ratio_Of.f 0 0).bind fun t172 => ((ratio_Text.f k t172).bind fun t173 => (if t173.toList = ([110, 97, 110] : List UInt8) then ((ratio_Near.f k 10 4605380978949069210).bind fun t174 => (if t174 = 8 then (if t165 = true then (if (feq t164 0) = true then ((math_Signbit.f t164).bind fun t175 => (if t175 = true then ((ratio_Text.f k t164).bind fun t176 => (if t176.toList = ([45, 48, 46, 48, 48, 48] : List UInt8) then (if t166.toList = ([48, 46, 53] : List UInt8) then (if t167 = true then (if bt168.2 = true then (some false) else ((ratio_Order.f t164 0).bind fun t177 => (if t177 = (-1) then ((ratio_Same.f t164 0).bind fun t178 => (if t178 = true then (some false) else ((math_NaN.f).bind fun t179 => ((math_NaN.f).bind fun t180 => ((ratio_Same.f t179 t180).bind fun t181 => (some t181)))))) else (some false)))) else (some false)) else (some false)) else (some false))) else (some false))) else (some false)) else (some false)) else (some false))) else (some false)))) else (some false))))) = some r := H
  have A2 := Aside0.mk A20
  clear A20
  replace H := Option.bind_eq_some_iff.mp H
  obtain ⟨⟨t168, t169⟩, A30, H⟩ := H
  replace H : ((ratio_Of.f 0 0).bind fun t170 => ((math_IsNaN.f t170).bind fun t171 => (if t171 = true then ((ratio_Of.f 0 0).bind fun t172 => ((ratio_Text.f k t172).bind fun t173 => (if t173.toList = ([110, 97, 110] : List UInt8) then ((ratio_Near.f k 10 4605380978949069210).bind fun t174 => (if t174 = 8 then (if t165 = true then (if (feq t164 0) = true then ((math_Signbit.f t164).bind fun t175 => (if t175 = true then ((ratio_Text.f k t164).bind fun t176 => (if t176.toList = ([45, 48, 46, 48, 48, 48] : List UInt8) then (if t166.toList = ([48, 46, 53] : List UInt8) then (if t167 = true then (if t169 = true then (some false) else ((ratio_Order.f t164 0).bind fun t177 => (if t177 = (-1) then ((ratio_Same.f t164 0).bind fun t178 => (if t178 = true then (some false) else ((math_NaN.f).bind fun t179 => ((math_NaN.f).bind fun t180 => ((ratio_Same.f t179 t180).bind fun t181 => (some t181)))))) else (some false)))) else (some false)) else (some false)) else (some false))) else (some false))) else (some false)) else (some false)) else (some false))) else (some false)))) else (some false)))) = some r := H
  have A3 := Aside0.mk A30
  clear A30
  replace H := Option.bind_eq_some_iff.mp H
  obtain ⟨t170, A40, H⟩ := H
  replace H : ((math_IsNaN.f t170).bind fun t171 => (if t171 = true then ((ratio_Of.f 0 0).bind fun t172 => ((ratio_Text.f k t172).bind fun t173 => (if t173.toList = ([110, 97, 110] : List UInt8) then ((ratio_Near.f k 10 4605380978949069210).bind fun t174 => (if t174 = 8 then (if t165 = true then (if (feq t164 0) = true then ((math_Signbit.f t164).bind fun t175 => (if t175 = true then ((ratio_Text.f k t164).bind fun t176 => (if t176.toList = ([45, 48, 46, 48, 48, 48] : List UInt8) then (if t166.toList = ([48, 46, 53] : List UInt8) then (if t167 = true then (if t169 = true then (some false) else ((ratio_Order.f t164 0).bind fun t177 => (if t177 = (-1) then ((ratio_Same.f t164 0).bind fun t178 => (if t178 = true then (some false) else ((math_NaN.f).bind fun t179 => ((math_NaN.f).bind fun t180 => ((ratio_Same.f t179 t180).bind fun t181 => (some t181)))))) else (some false)))) else (some false)) else (some false)) else (some false))) else (some false))) else (some false)) else (some false)) else (some false))) else (some false)))) else (some false))) = some r := H
  have A4 := Aside0.mk A40
  clear A40
  replace H := Option.bind_eq_some_iff.mp H
  obtain ⟨t171, A50, H⟩ := H
  replace H : (if t171 = true then ((ratio_Of.f 0 0).bind fun t172 => ((ratio_Text.f k t172).bind fun t173 => (if t173.toList = ([110, 97, 110] : List UInt8) then ((ratio_Near.f k 10 4605380978949069210).bind fun t174 => (if t174 = 8 then (if t165 = true then (if (feq t164 0) = true then ((math_Signbit.f t164).bind fun t175 => (if t175 = true then ((ratio_Text.f k t164).bind fun t176 => (if t176.toList = ([45, 48, 46, 48, 48, 48] : List UInt8) then (if t166.toList = ([48, 46, 53] : List UInt8) then (if t167 = true then (if t169 = true then (some false) else ((ratio_Order.f t164 0).bind fun t177 => (if t177 = (-1) then ((ratio_Same.f t164 0).bind fun t178 => (if t178 = true then (some false) else ((math_NaN.f).bind fun t179 => ((math_NaN.f).bind fun t180 => ((ratio_Same.f t179 t180).bind fun t181 => (some t181)))))) else (some false)))) else (some false)) else (some false)) else (some false))) else (some false))) else (some false)) else (some false)) else (some false))) else (some false)))) else (some false)) = some r := H
  have A5 := Aside0.mk A50
  clear A50
  by_cases c6 : t171 = true
  · subst c6
    have H1 : ((ratio_Of.f 0 0).bind fun t172 => ((ratio_Text.f k t172).bind fun t173 => (if t173.toList = ([110, 97, 110] : List UInt8) then ((ratio_Near.f k 10 4605380978949069210).bind fun t174 => (if t174 = 8 then (if t165 = true then (if (feq t164 0) = true then ((math_Signbit.f t164).bind fun t175 => (if t175 = true then ((ratio_Text.f k t164).bind fun t176 => (if t176.toList = ([45, 48, 46, 48, 48, 48] : List UInt8) then (if t166.toList = ([48, 46, 53] : List UInt8) then (if t167 = true then (if t169 = true then (some false) else ((ratio_Order.f t164 0).bind fun t177 => (if t177 = (-1) then ((ratio_Same.f t164 0).bind fun t178 => (if t178 = true then (some false) else ((math_NaN.f).bind fun t179 => ((math_NaN.f).bind fun t180 => ((ratio_Same.f t179 t180).bind fun t181 => (some t181)))))) else (some false)))) else (some false)) else (some false)) else (some false))) else (some false))) else (some false)) else (some false)) else (some false))) else (some false)))) = some r := by rw [if_pos rfl] at H; exact H
    clear H
    have H := H1
    clear H1
    replace H := Option.bind_eq_some_iff.mp H
    obtain ⟨t172, A70, H⟩ := H
    replace H : ((ratio_Text.f k t172).bind fun t173 => (if t173.toList = ([110, 97, 110] : List UInt8) then ((ratio_Near.f k 10 4605380978949069210).bind fun t174 => (if t174 = 8 then (if t165 = true then (if (feq t164 0) = true then ((math_Signbit.f t164).bind fun t175 => (if t175 = true then ((ratio_Text.f k t164).bind fun t176 => (if t176.toList = ([45, 48, 46, 48, 48, 48] : List UInt8) then (if t166.toList = ([48, 46, 53] : List UInt8) then (if t167 = true then (if t169 = true then (some false) else ((ratio_Order.f t164 0).bind fun t177 => (if t177 = (-1) then ((ratio_Same.f t164 0).bind fun t178 => (if t178 = true then (some false) else ((math_NaN.f).bind fun t179 => ((math_NaN.f).bind fun t180 => ((ratio_Same.f t179 t180).bind fun t181 => (some t181)))))) else (some false)))) else (some false)) else (some false)) else (some false))) else (some false))) else (some false)) else (some false)) else (some false))) else (some false))) = some r := H
    have A7 := Aside0.mk A70
    clear A70
    replace H := Option.bind_eq_some_iff.mp H
    obtain ⟨t173, A80, H⟩ := H
    replace H : (if t173.toList = ([110, 97, 110] : List UInt8) then ((ratio_Near.f k 10 4605380978949069210).bind fun t174 => (if t174 = 8 then (if t165 = true then (if (feq t164 0) = true then ((math_Signbit.f t164).bind fun t175 => (if t175 = true then ((ratio_Text.f k t164).bind fun t176 => (if t176.toList = ([45, 48, 46, 48, 48, 48] : List UInt8) then (if t166.toList = ([48, 46, 53] : List UInt8) then (if t167 = true then (if t169 = true then (some false) else ((ratio_Order.f t164 0).bind fun t177 => (if t177 = (-1) then ((ratio_Same.f t164 0).bind fun t178 => (if t178 = true then (some false) else ((math_NaN.f).bind fun t179 => ((math_NaN.f).bind fun t180 => ((ratio_Same.f t179 t180).bind fun t181 => (some t181)))))) else (some false)))) else (some false)) else (some false)) else (some false))) else (some false))) else (some false)) else (some false)) else (some false))) else (some false)) = some r := H
    have A8 := Aside0.mk A80
    clear A80
    by_cases c9 : t173.toList = ([110, 97, 110] : List UInt8)
    · rw [if_pos c9] at H
      have c9b0 : (t173.toList == ([110, 97, 110] : List UInt8)) = true := beq_iff_eq.mpr c9
      have c9b1 : (t173.toList != ([110, 97, 110] : List UInt8)) = false := bne_eq_false_iff_eq.mpr c9
      clear c9
      replace H := Option.bind_eq_some_iff.mp H
      obtain ⟨t174, A100, H⟩ := H
      replace H : (if t174 = 8 then (if t165 = true then (if (feq t164 0) = true then ((math_Signbit.f t164).bind fun t175 => (if t175 = true then ((ratio_Text.f k t164).bind fun t176 => (if t176.toList = ([45, 48, 46, 48, 48, 48] : List UInt8) then (if t166.toList = ([48, 46, 53] : List UInt8) then (if t167 = true then (if t169 = true then (some false) else ((ratio_Order.f t164 0).bind fun t177 => (if t177 = (-1) then ((ratio_Same.f t164 0).bind fun t178 => (if t178 = true then (some false) else ((math_NaN.f).bind fun t179 => ((math_NaN.f).bind fun t180 => ((ratio_Same.f t179 t180).bind fun t181 => (some t181)))))) else (some false)))) else (some false)) else (some false)) else (some false))) else (some false))) else (some false)) else (some false)) else (some false)) = some r := H
      have A10 := Aside0.mk A100
      clear A100
      by_cases c11 : t174 = 8
      · rw [if_pos c11] at H
        have c11b0 : (t174 == 8) = true := beq_iff_eq.mpr c11
        have c11b1 : (t174 != 8) = false := bne_eq_false_iff_eq.mpr c11
        clear c11
        by_cases c12 : t165 = true
        · subst c12
          have H1 : (if (feq t164 0) = true then ((math_Signbit.f t164).bind fun t175 => (if t175 = true then ((ratio_Text.f k t164).bind fun t176 => (if t176.toList = ([45, 48, 46, 48, 48, 48] : List UInt8) then (if t166.toList = ([48, 46, 53] : List UInt8) then (if t167 = true then (if t169 = true then (some false) else ((ratio_Order.f t164 0).bind fun t177 => (if t177 = (-1) then ((ratio_Same.f t164 0).bind fun t178 => (if t178 = true then (some false) else ((math_NaN.f).bind fun t179 => ((math_NaN.f).bind fun t180 => ((ratio_Same.f t179 t180).bind fun t181 => (some t181)))))) else (some false)))) else (some false)) else (some false)) else (some false))) else (some false))) else (some false)) = some r := by rw [if_pos rfl] at H; exact H
          clear H
          have H := H1
          clear H1
          by_cases c13 : (feq t164 0) = true
          · rw [if_pos c13] at H
            have c13b0 : (feq t164 0) = true := c13
            clear c13
            replace H := Option.bind_eq_some_iff.mp H
            obtain ⟨t175, A140, H⟩ := H
            replace H : (if t175 = true then ((ratio_Text.f k t164).bind fun t176 => (if t176.toList = ([45, 48, 46, 48, 48, 48] : List UInt8) then (if t166.toList = ([48, 46, 53] : List UInt8) then (if t167 = true then (if t169 = true then (some false) else ((ratio_Order.f t164 0).bind fun t177 => (if t177 = (-1) then ((ratio_Same.f t164 0).bind fun t178 => (if t178 = true then (some false) else ((math_NaN.f).bind fun t179 => ((math_NaN.f).bind fun t180 => ((ratio_Same.f t179 t180).bind fun t181 => (some t181)))))) else (some false)))) else (some false)) else (some false)) else (some false))) else (some false)) = some r := H
            have A14 := Aside0.mk A140
            clear A140
            by_cases c15 : t175 = true
            · subst c15
              have H1 : ((ratio_Text.f k t164).bind fun t176 => (if t176.toList = ([45, 48, 46, 48, 48, 48] : List UInt8) then (if t166.toList = ([48, 46, 53] : List UInt8) then (if t167 = true then (if t169 = true then (some false) else ((ratio_Order.f t164 0).bind fun t177 => (if t177 = (-1) then ((ratio_Same.f t164 0).bind fun t178 => (if t178 = true then (some false) else ((math_NaN.f).bind fun t179 => ((math_NaN.f).bind fun t180 => ((ratio_Same.f t179 t180).bind fun t181 => (some t181)))))) else (some false)))) else (some false)) else (some false)) else (some false))) = some r := by rw [if_pos rfl] at H; exact H
              clear H
              have H := H1
              clear H1
              replace H := Option.bind_eq_some_iff.mp H
              obtain ⟨t176, A160, H⟩ := H
              replace H : (if t176.toList = ([45, 48, 46, 48, 48, 48] : List UInt8) then (if t166.toList = ([48, 46, 53] : List UInt8) then (if t167 = true then (if t169 = true then (some false) else ((ratio_Order.f t164 0).bind fun t177 => (if t177 = (-1) then ((ratio_Same.f t164 0).bind fun t178 => (if t178 = true then (some false) else ((math_NaN.f).bind fun t179 => ((math_NaN.f).bind fun t180 => ((ratio_Same.f t179 t180).bind fun t181 => (some t181)))))) else (some false)))) else (some false)) else (some false)) else (some false)) = some r := H
              have A16 := Aside0.mk A160
              clear A160
              by_cases c17 : t176.toList = ([45, 48, 46, 48, 48, 48] : List UInt8)
              · rw [if_pos c17] at H
                have c17b0 : (t176.toList == ([45, 48, 46, 48, 48, 48] : List UInt8)) = true := beq_iff_eq.mpr c17
                have c17b1 : (t176.toList != ([45, 48, 46, 48, 48, 48] : List UInt8)) = false := bne_eq_false_iff_eq.mpr c17
                clear c17
                by_cases c18 : t166.toList = ([48, 46, 53] : List UInt8)
                · rw [if_pos c18] at H
                  have c18b0 : (t166.toList == ([48, 46, 53] : List UInt8)) = true := beq_iff_eq.mpr c18
                  have c18b1 : (t166.toList != ([48, 46, 53] : List UInt8)) = false := bne_eq_false_iff_eq.mpr c18
                  clear c18
                  by_cases c19 : t167 = true
                  · subst c19
                    have H1 : (if t169 = true then (some false) else ((ratio_Order.f t164 0).bind fun t177 => (if t177 = (-1) then ((ratio_Same.f t164 0).bind fun t178 => (if t178 = true then (some false) else ((math_NaN.f).bind fun t179 => ((math_NaN.f).bind fun t180 => ((ratio_Same.f t179 t180).bind fun t181 => (some t181)))))) else (some false)))) = some r := by rw [if_pos rfl] at H; exact H
                    clear H
                    have H := H1
                    clear H1
                    by_cases c20 : t169 = true
                    · subst c20
                      have H1 : (some false) = some r := by rw [if_pos rfl] at H; exact H
                      clear H
                      have H := H1
                      clear H1
                      exact absurd ((Option.some.inj H).trans hr_) (by decide)
                    · replace c20 := Bool.eq_false_iff.mpr c20
                      subst c20
                      have H1 : ((ratio_Order.f t164 0).bind fun t177 => (if t177 = (-1) then ((ratio_Same.f t164 0).bind fun t178 => (if t178 = true then (some false) else ((math_NaN.f).bind fun t179 => ((math_NaN.f).bind fun t180 => ((ratio_Same.f t179 t180).bind fun t181 => (some t181)))))) else (some false))) = some r := by rw [if_neg (show ¬ (false = true) by decide)] at H; exact H
                      clear H
                      have H := H1
                      clear H1
                      replace H := Option.bind_eq_some_iff.mp H
                      obtain ⟨t177, A270, H⟩ := H
                      replace H : (if t177 = (-1) then ((ratio_Same.f t164 0).bind fun t178 => (if t178 = true then (some false) else ((math_NaN.f).bind fun t179 => ((math_NaN.f).bind fun t180 => ((ratio_Same.f t179 t180).bind fun t181 => (some t181)))))) else (some false)) = some r := H
                      have A27 := Aside0.mk A270
                      clear A270
                      by_cases c28 : t177 = (-1)
                      · rw [if_pos c28] at H
                        have c28b0 : (t177 == (-1)) = true := beq_iff_eq.mpr c28
                        have c28b1 : (t177 != (-1)) = false := bne_eq_false_iff_eq.mpr c28
                        clear c28
                        replace H := Option.bind_eq_some_iff.mp H
                        obtain ⟨t178, A290, H⟩ := H
                        replace H : (if t178 = true then (some false) else ((math_NaN.f).bind fun t179 => ((math_NaN.f).bind fun t180 => ((ratio_Same.f t179 t180).bind fun t181 => (some t181))))) = some r := H
                        have A29 := Aside0.mk A290
                        clear A290
                        by_cases c30 : t178 = true
                        · subst c30
                          have H1 : (some false) = some r := by rw [if_pos rfl] at H; exact H
                          clear H
                          have H := H1
                          clear H1
                          exact absurd ((Option.some.inj H).trans hr_) (by decide)
                        · replace c30 := Bool.eq_false_iff.mpr c30
                          subst c30
                          have H1 : ((math_NaN.f).bind fun t179 => ((math_NaN.f).bind fun t180 => ((ratio_Same.f t179 t180).bind fun t181 => (some t181)))) = some r := by rw [if_neg (show ¬ (false = true) by decide)] at H; exact H
                          clear H
                          have H := H1
                          clear H1
                          replace H := Option.bind_eq_some_iff.mp H
                          obtain ⟨t179, A370, H⟩ := H
                          replace H : ((math_NaN.f).bind fun t180 => ((ratio_Same.f t179 t180).bind fun t181 => (some t181))) = some r := H
                          have A37 := Aside0.mk A370
                          clear A370
                          replace H := Option.bind_eq_some_iff.mp H
                          obtain ⟨t180, A380, H⟩ := H
                          replace H : ((ratio_Same.f t179 t180).bind fun t181 => (some t181)) = some r := H
                          have A38 := Aside0.mk A380
                          clear A380
                          replace H := Option.bind_eq_some_iff.mp H
                          obtain ⟨t181, A390, H⟩ := H
                          replace H : (some t181) = some r := H
                          have A39 := Aside0.mk A390
                          clear A390
                          first
                            | exact absurd ((Option.some.inj H).trans hr_) (by decide)
                            | (obtain rfl := Option.some.inj H
                               clear hr_
                               go_enter Try.func24, Try.ntmps24
                               go_wp2_with (first | ((with_reducible refine gate_callee (f := 34) rfl ?_); refine goesL_ (some 8) rfl rfl Try.func34 (by kernel_rfl) rfl #[.string (⟨#[45, 48]⟩ : ByteArray)] rfl (by (try simp only [List.map_toArray, List.map_cons, List.map_nil]); first | done | rfl | (simp only [List.length_drop, List.length_take]; rfl)) ?_; (with_reducible refine (ratio_Parse.calls k (⟨#[45, 48]⟩ : ByteArray) t164 true _ A1.out).mono ?_); rintro e w40 ⟨rfl, hb⟩; refine ⟨_, rfl, ?_⟩; have n0_ := Aside0.mk (below_step (by repeat (first | (with_reducible first | exact HB.out | apply below_alloc | apply pw_below_drewN | apply below_drew1) | exact HB.out)) hb); clear HB; have HB := n0_; clear n0_; (try clear hb); (try clear hb2); (try clear hk); (try clear hi)) | ((with_reducible refine gate_callee (f := 35) rfl ?_); refine goesL_ (some 12) rfl rfl Try.func35 (by kernel_rfl) rfl #[.float .f64 4602678819172646912] rfl (by (try simp only [List.map_toArray, List.map_cons, List.map_nil]); first | done | rfl | (simp only [List.length_drop, List.length_take]; rfl)) ?_; (with_reducible refine (ratio_Write.calls k 4602678819172646912 t166 true _ A2.out).mono ?_); rintro e w41 ⟨rfl, hb⟩; refine ⟨_, rfl, ?_⟩; have n0_ := Aside0.mk (below_step (by repeat (first | (with_reducible first | exact HB.out | apply below_alloc | apply pw_below_drewN | apply below_drew1) | exact HB.out)) hb); clear HB; have HB := n0_; clear n0_; (try clear hb); (try clear hb2); (try clear hk); (try clear hi)) | ((with_reducible refine gate_callee (f := 34) rfl ?_); refine goesL_ (some 16) rfl rfl Try.func34 (by kernel_rfl) rfl #[.string (⟨#[48, 49]⟩ : ByteArray)] rfl (by (try simp only [List.map_toArray, List.map_cons, List.map_nil]); first | done | rfl | (simp only [List.length_drop, List.length_take]; rfl)) ?_; (with_reducible refine (ratio_Parse.calls k (⟨#[48, 49]⟩ : ByteArray) t168 false _ A3.out).mono ?_); rintro e w42 ⟨rfl, hb⟩; refine ⟨_, rfl, ?_⟩; have n0_ := Aside0.mk (below_step (by repeat (first | (with_reducible first | exact HB.out | apply below_alloc | apply pw_below_drewN | apply below_drew1) | exact HB.out)) hb); clear HB; have HB := n0_; clear n0_; (try clear hb); (try clear hb2); (try clear hk); (try clear hi)) | ((with_reducible refine gate_callee (f := 21) rfl ?_); refine goesL_ (some 19) rfl rfl Try.func21 (by kernel_rfl) rfl #[.int .i64 0, .int .i64 0] rfl (by (try simp only [List.map_toArray, List.map_cons, List.map_nil]); first | done | rfl | (simp only [List.length_drop, List.length_take]; rfl)) ?_; (with_reducible refine (ratio_Of.calls 0 0 t170 _ A4.out).mono ?_); rintro e w' ⟨zt170, hsz_t1700, rfl, ⟨nd, rfl⟩⟩; have hsz_t170 := Aside0.mk hsz_t1700; clear hsz_t1700; refine ⟨_, rfl, ?_⟩) | ((with_reducible refine gate_callee (f := 23) rfl ?_); refine goesL_ (some 20) rfl rfl Try.func23 (by kernel_rfl) rfl #[.float .f64 zt170] rfl (by (try simp only [List.map_toArray, List.map_cons, List.map_nil]); first | done | rfl | (simp only [List.length_drop, List.length_take]; rfl)) ?_; (with_reducible refine (math_IsNaN.calls zt170 true _ (math_IsNaN.sim hsz_t170.out A5.out)).mono ?_); rintro e w' ⟨rfl, ⟨nd, rfl⟩⟩; refine ⟨_, rfl, ?_⟩) | (go_at_call 21; (with_reducible refine (ratio_Of.calls 0 0 t172 _ A7.out).mono ?_); rintro e w' ⟨zt172, hsz_t1720, rfl, ⟨nd, rfl⟩⟩; have hsz_t172 := Aside0.mk hsz_t1720; clear hsz_t1720) | (go_at_call 37; (with_reducible refine (ratio_Text.calls k zt172 t173 _ (ratio_Text.sim hsz_t172.out A8.out)).mono ?_); rintro e w43 ⟨rfl, hb⟩; have n0_ := Aside0.mk (below_step (by repeat (first | (with_reducible first | exact HB.out | apply below_alloc | apply pw_below_drewN | apply below_drew1) | exact HB.out)) hb); clear HB; have HB := n0_; clear n0_; (try clear hb); (try clear hb2); (try clear hk); (try clear hi)) | (go_at_call 32; (with_reducible refine (ratio_Near.calls k 10 4605380978949069210 t174 _ A10.out).mono ?_); rintro e w44 ⟨rfl, hb⟩; have n0_ := Aside0.mk (below_step (by repeat (first | (with_reducible first | exact HB.out | apply below_alloc | apply pw_below_drewN | apply below_drew1) | exact HB.out)) hb); clear HB; have HB := n0_; clear n0_; (try clear hb); (try clear hb2); (try clear hk); (try clear hi)) | (go_at_call 26; (with_reducible refine (math_Signbit.calls t164 true _ A14.out).mono ?_); rintro e w' ⟨rfl, ⟨nd, rfl⟩⟩) | (go_at_call 37; (with_reducible refine (ratio_Text.calls k t164 t176 _ A16.out).mono ?_); rintro e w45 ⟨rfl, hb⟩; have n0_ := Aside0.mk (below_step (by repeat (first | (with_reducible first | exact HB.out | apply below_alloc | apply pw_below_drewN | apply below_drew1) | exact HB.out)) hb); clear HB; have HB := n0_; clear n0_; (try clear hb); (try clear hb2); (try clear hk); (try clear hi)) | (go_at_call 28; (with_reducible refine (ratio_Order.calls t164 0 t177 _ A27.out).mono ?_); rintro e w' ⟨rfl, ⟨nd, rfl⟩⟩) | (go_at_call 30; (with_reducible refine (ratio_Same.calls t164 0 false _ A29.out).mono ?_); rintro e w' ⟨rfl, ⟨nd, rfl⟩⟩) | (go_at_call 33; (with_reducible refine (math_NaN.calls  t179 _ A37.out).mono ?_); rintro e w' ⟨rfl, ⟨nd, rfl⟩⟩) | (go_at_call 33; (with_reducible refine (math_NaN.calls  t180 _ A38.out).mono ?_); rintro e w' ⟨rfl, ⟨nd, rfl⟩⟩) | (go_at_call 30; (with_reducible refine (ratio_Same.calls t179 t179 t181 _ (math_NaN.two A37.out A38.out A39.out)).mono ?_); rintro e w' ⟨rfl, ⟨nd, rfl⟩⟩))
                               go_ret
                               exact ⟨by first | rfl | (simp [errW_none, errW_some] <;> rfl) | (simp [*, errW_none, errW_some] <;> rfl), by repeat (first | (with_reducible first | exact HB.out | apply below_alloc | apply pw_below_drewN | apply below_drew1) | exact HB.out)⟩)
                      · rw [if_neg c28] at H
                        have c28b0 : (t177 == (-1)) = false := beq_eq_false_iff_ne.mpr c28
                        have c28b1 : (t177 != (-1)) = true := bne_iff_ne.mpr c28
                        exact absurd ((Option.some.inj H).trans hr_) (by decide)
                  · replace c19 := Bool.eq_false_iff.mpr c19
                    subst c19
                    have H1 : (some false) = some r := by rw [if_neg (show ¬ (false = true) by decide)] at H; exact H
                    clear H
                    have H := H1
                    clear H1
                    exact absurd ((Option.some.inj H).trans hr_) (by decide)
                · rw [if_neg c18] at H
                  have c18b0 : (t166.toList == ([48, 46, 53] : List UInt8)) = false := beq_eq_false_iff_ne.mpr c18
                  have c18b1 : (t166.toList != ([48, 46, 53] : List UInt8)) = true := bne_iff_ne.mpr c18
                  exact absurd ((Option.some.inj H).trans hr_) (by decide)
              · rw [if_neg c17] at H
                have c17b0 : (t176.toList == ([45, 48, 46, 48, 48, 48] : List UInt8)) = false := beq_eq_false_iff_ne.mpr c17
                have c17b1 : (t176.toList != ([45, 48, 46, 48, 48, 48] : List UInt8)) = true := bne_iff_ne.mpr c17
                exact absurd ((Option.some.inj H).trans hr_) (by decide)
            · replace c15 := Bool.eq_false_iff.mpr c15
              subst c15
              have H1 : (some false) = some r := by rw [if_neg (show ¬ (false = true) by decide)] at H; exact H
              clear H
              have H := H1
              clear H1
              exact absurd ((Option.some.inj H).trans hr_) (by decide)
          · rw [if_neg c13] at H
            have c13b0 : (feq t164 0) = false := by simpa using c13
            clear c13
            exact absurd ((Option.some.inj H).trans hr_) (by decide)
        · replace c12 := Bool.eq_false_iff.mpr c12
          subst c12
          have H1 : (some false) = some r := by rw [if_neg (show ¬ (false = true) by decide)] at H; exact H
          clear H
          have H := H1
          clear H1
          exact absurd ((Option.some.inj H).trans hr_) (by decide)
      · rw [if_neg c11] at H
        have c11b0 : (t174 == 8) = false := beq_eq_false_iff_ne.mpr c11
        have c11b1 : (t174 != 8) = true := bne_iff_ne.mpr c11
        exact absurd ((Option.some.inj H).trans hr_) (by decide)
    · rw [if_neg c9] at H
      have c9b0 : (t173.toList == ([110, 97, 110] : List UInt8)) = false := beq_eq_false_iff_ne.mpr c9
      have c9b1 : (t173.toList != ([110, 97, 110] : List UInt8)) = true := bne_iff_ne.mpr c9
      exact absurd ((Option.some.inj H).trans hr_) (by decide)
  · replace c6 := Bool.eq_false_iff.mpr c6
    subst c6
    have H1 : (some false) = some r := by rw [if_neg (show ¬ (false = true) by decide)] at H; exact H
    clear H
    have H := H1
    clear H1
    exact absurd ((Option.some.inj H).trans hr_) (by decide)
def turncocklaw5_awake.f (k : Nat) : Option (Bool) := if turncocklaw5_awake.g k = some true then some true else none
theorem turncocklaw5_awake.mono : ∀ k, LeO (turncocklaw5_awake.f k ) (turncocklaw5_awake.f (k + 1) ) := by
  intro k r h
  unfold turncocklaw5_awake.f at h ⊢
  split at h
  · rename_i hg; rw [if_pos (turncocklaw5_awake.gmono k _ hg)]; exact h
  · cases h
theorem turncocklaw5_awake.calls (k : Nat) (r : Bool) (w : World) (h : turncocklaw5_awake.f k = some r) :
    Calls Try.prog 24 #[] w fun e w' => e = .returned (.bool r) ∧ Below w.heap.size w w' := by
  unfold turncocklaw5_awake.f at h
  split at h
  · rename_i hg; obtain rfl := Option.some.inj h; exact turncocklaw5_awake.gcalls k true w hg rfl
  · cases h

/-! ### turncocklaw5_of: function 27 (my own) -/
def turncocklaw5_of.f (a0 : Int) : Option (Nat) := some a0.toNat
set_option maxRecDepth 100000 in
theorem turncocklaw5_of.calls (a0 : Int) (r : Nat) (w : World) (h : turncocklaw5_of.f a0 = some r) :
    Calls Try.prog 27 #[.int .u64 a0] w fun e w' => e = .returned (.float .f64 r) ∧ Drawn0 w w' := by
  obtain rfl := Option.some.inj h
  clear h
  go_enter Try.func27, Try.ntmps27
  go_wp2
  go_ret
  exact ⟨by first | rfl | simp, by repeat (first | exact Drawn0.refl _ | apply Drawn0.step)⟩

/-! ### turncockref1_Order: function 29 -/
mutual
def turncockref1_Order.j0 : Nat → Nat → Nat → Bool → Option (Int)
  | 0, _, _, _ => none
  | k + 1, x0, x1, x10 => if x10 = true then ((math_IsNaN.f x0).bind fun t184 => (if t184 = true then ((math_IsNaN.f x1).bind fun t185 => (turncockref1_Order.j1 k x0 t185)) else (turncockref1_Order.j1 k x0 false))) else (if (flt x0 x1) = true then (some (-1)) else (if (fgt x0 x1) = true then (some 1) else ((math_Signbit.f x0).bind fun t187 => ((math_Signbit.f x1).bind fun t188 => (if (t187 == t188) = true then (some 0) else ((math_Signbit.f x0).bind fun t189 => (if t189 = true then (some (-1)) else (some 1))))))))
def turncockref1_Order.j1 : Nat → Nat → Bool → Option (Int)
  | 0, _, _ => none
  | k + 1, x0, x16 => if x16 = true then (some 0) else ((math_IsNaN.f x0).bind fun t186 => (if t186 = true then (some 1) else (some (-1))))
end
def turncockref1_Order.f (k : Nat) (a0 : Nat) (a1 : Nat) : Option (Int) := (math_IsNaN.f a0).bind fun t182 => (if t182 = true then (turncockref1_Order.j0 k a0 a1 true) else ((math_IsNaN.f a1).bind fun t183 => (turncockref1_Order.j0 k a0 a1 t183)))
theorem turncockref1_Order.mono_l : ∀ k, (∀ y0 y1 y2, LeO (turncockref1_Order.j0 k y0 y1 y2) (turncockref1_Order.j0 (k + 1) y0 y1 y2)) ∧ (∀ y0 y1, LeO (turncockref1_Order.j1 k y0 y1) (turncockref1_Order.j1 (k + 1) y0 y1))
  | 0 => ⟨fun _ _ _ r h => by simp [turncockref1_Order.j0] at h, fun _ _ r h => by simp [turncockref1_Order.j1] at h⟩
  | k + 1 => by
    obtain ⟨ih0, ih1⟩ := turncockref1_Order.mono_l k
    refine ⟨?_, ?_⟩
    · intro y0 y1 y2
      unfold turncockref1_Order.j0
      repeat' first
      | (with_reducible exact ih0 _ _ _)
      | (with_reducible exact ih1 _ _)
      | (with_reducible exact LeO.refl _)
      | (with_reducible exact LeO.none _)
      | (with_reducible refine LeO.ite ?_ ?_)
      | (with_reducible refine LeO.bind ?_ (fun _ => ?_))
      | exact ih0 _ _ _
      | exact ih1 _ _
      | exact LeO.none _
      | refine LeO.ite ?_ ?_
      | refine LeO.bind ?_ (fun _ => ?_)
    · intro y0 y1
      unfold turncockref1_Order.j1
      repeat' first
      | (with_reducible exact ih0 _ _ _)
      | (with_reducible exact ih1 _ _)
      | (with_reducible exact LeO.refl _)
      | (with_reducible exact LeO.none _)
      | (with_reducible refine LeO.ite ?_ ?_)
      | (with_reducible refine LeO.bind ?_ (fun _ => ?_))
      | exact ih0 _ _ _
      | exact ih1 _ _
      | exact LeO.none _
      | refine LeO.ite ?_ ?_
      | refine LeO.bind ?_ (fun _ => ?_)
theorem turncockref1_Order.mono : ∀ a0 a1 k, LeO (turncockref1_Order.f k a0 a1) (turncockref1_Order.f (k + 1) a0 a1) := by
  intro a0 a1 k
  obtain ⟨ih0, ih1⟩ := turncockref1_Order.mono_l k
  unfold turncockref1_Order.f
  repeat' first
      | (with_reducible exact ih0 _ _ _)
      | (with_reducible exact ih1 _ _)
      | (with_reducible exact LeO.refl _)
      | (with_reducible exact LeO.none _)
      | (with_reducible refine LeO.ite ?_ ?_)
      | (with_reducible refine LeO.bind ?_ (fun _ => ?_))
      | exact ih0 _ _ _
      | exact ih1 _ _
      | exact LeO.none _
      | refine LeO.ite ?_ ?_
      | refine LeO.bind ?_ (fun _ => ?_)
set_option maxHeartbeats 8000000 in
set_option maxRecDepth 100000 in
theorem turncockref1_Order.calls (k : Nat) (a0 : Nat) (a1 : Nat) (r : Int) (w : World) (h : turncockref1_Order.f k a0 a1 = some r) :
    Calls Try.prog 29 #[.float .f64 a0, .float .f64 a1] w fun e w' => e = .returned (.int .i64 r) ∧ Drawn0 w w' := by
  have H : ((math_IsNaN.f a0).bind fun t182 => (if t182 = true then (turncockref1_Order.j0 k a0 a1 true) else ((math_IsNaN.f a1).bind fun t183 => (turncockref1_Order.j0 k a0 a1 t183)))) = some r := h
  clear h
  have HC3 := Aside0.mk H
  clear H
  go_enter Try.func29, Try.ntmps29
  go_upto_region 1 with (fail)
  go_cut [10] (fun v10 wc => ∃ (kq : Nat) (x10_2 : Bool), v10 = .bool x10_2 ∧ Aside0 (turncockref1_Order.j0 kq a0 a1 x10_2 = some r) ∧ Aside0 (kq ≤ k) ∧ Drawn0 w wc)
  case first =>
    have H := HC3.out
    clear HC3
    replace H := Option.bind_eq_some_iff.mp H
    obtain ⟨t182, A40, H⟩ := H
    replace H : (if t182 = true then (turncockref1_Order.j0 k a0 a1 true) else ((math_IsNaN.f a1).bind fun t183 => (turncockref1_Order.j0 k a0 a1 t183))) = some r := H
    have A4 := Aside0.mk A40
    clear A40
    by_cases c5 : t182 = true
    · subst c5
      have H1 : (turncockref1_Order.j0 k a0 a1 true) = some r := by rw [if_pos rfl] at H; exact H
      clear H
      have H := H1
      clear H1
      have H' := Aside0.mk H
      clear H
      go_wp2_with (first | ((with_reducible refine gate_callee (f := 23) rfl ?_); refine goesL_ (some 6) rfl rfl Try.func23 (by kernel_rfl) rfl #[.float .f64 a0] rfl (by (try simp only [List.map_toArray, List.map_cons, List.map_nil]); first | done | rfl | (simp only [List.length_drop, List.length_take]; rfl)) ?_; (with_reducible refine (math_IsNaN.calls a0 true _ A4.out).mono ?_); rintro e w' ⟨rfl, ⟨nd, rfl⟩⟩; refine ⟨_, rfl, ?_⟩))
      go_meet
      case rel => exact ⟨_, (true), (by first | rfl | (simp; done) | (simp [*]; done)), H', ⟨by first | omega | exact Nat.le_refl _⟩, by repeat (first | exact Drawn0.refl _ | apply Drawn0.step)⟩
    · replace c5 := Bool.eq_false_iff.mpr c5
      subst c5
      have H1 : ((math_IsNaN.f a1).bind fun t183 => (turncockref1_Order.j0 k a0 a1 t183)) = some r := by rw [if_neg (show ¬ (false = true) by decide)] at H; exact H
      clear H
      have H := H1
      clear H1
      replace H := Option.bind_eq_some_iff.mp H
      obtain ⟨t183, A60, H⟩ := H
      replace H : (turncockref1_Order.j0 k a0 a1 t183) = some r := H
      have A6 := Aside0.mk A60
      clear A60
      have H' := Aside0.mk H
      clear H
      go_wp2_with (first | ((with_reducible refine gate_callee (f := 23) rfl ?_); refine goesL_ (some 6) rfl rfl Try.func23 (by kernel_rfl) rfl #[.float .f64 a0] rfl (by (try simp only [List.map_toArray, List.map_cons, List.map_nil]); first | done | rfl | (simp only [List.length_drop, List.length_take]; rfl)) ?_; (with_reducible refine (math_IsNaN.calls a0 false _ A4.out).mono ?_); rintro e w' ⟨rfl, ⟨nd, rfl⟩⟩; refine ⟨_, rfl, ?_⟩) | (go_at_call 23; (with_reducible refine (math_IsNaN.calls a1 t183 _ A6.out).mono ?_); rintro e w' ⟨rfl, ⟨nd, rfl⟩⟩))
      go_meet
      case rel => exact ⟨_, (t183), (by first | rfl | (simp; done) | (simp [*]; done)), H', ⟨by first | omega | exact Nat.le_refl _⟩, by repeat (first | exact Drawn0.refl _ | apply Drawn0.step)⟩
  case rest =>
    clear HC3
    try clear c2
    try clear p2
    try clear c5
    obtain ⟨kq, x10_2, rfl, HA, HJ2, ⟨mc2, rfl⟩⟩ := hcut
    cases kq with
    | zero => exact absurd HA.out (by simp [turncockref1_Order.j0])
    | succ kj2 =>
      have H := HA.out
      clear HA
      simp only [turncockref1_Order.j0] at H
      by_cases c7 : x10_2 = true
      · subst c7
        have H1 : ((math_IsNaN.f a0).bind fun t184 => (if t184 = true then ((math_IsNaN.f a1).bind fun t185 => (turncockref1_Order.j1 kj2 a0 t185)) else (turncockref1_Order.j1 kj2 a0 false))) = some r := by rw [if_pos rfl] at H; exact H
        clear H
        have H := H1
        clear H1
        have HC8 := Aside0.mk H
        clear H
        go_upto_region 2 with (fail)
        go_cut [16] (fun v16 wc => ∃ (kq : Nat) (x16_7 : Bool), v16 = .bool x16_7 ∧ Aside0 (turncockref1_Order.j1 kq a0 x16_7 = some r) ∧ Aside0 (kq ≤ kj2) ∧ Drawn0 w wc)
        case first =>
          have H := HC8.out
          clear HC8
          replace H := Option.bind_eq_some_iff.mp H
          obtain ⟨t184, A90, H⟩ := H
          replace H : (if t184 = true then ((math_IsNaN.f a1).bind fun t185 => (turncockref1_Order.j1 kj2 a0 t185)) else (turncockref1_Order.j1 kj2 a0 false)) = some r := H
          have A9 := Aside0.mk A90
          clear A90
          by_cases c10 : t184 = true
          · subst c10
            have H1 : ((math_IsNaN.f a1).bind fun t185 => (turncockref1_Order.j1 kj2 a0 t185)) = some r := by rw [if_pos rfl] at H; exact H
            clear H
            have H := H1
            clear H1
            replace H := Option.bind_eq_some_iff.mp H
            obtain ⟨t185, A110, H⟩ := H
            replace H : (turncockref1_Order.j1 kj2 a0 t185) = some r := H
            have A11 := Aside0.mk A110
            clear A110
            have H' := Aside0.mk H
            clear H
            go_wp2_with (first | ((with_reducible refine gate_callee (f := 23) rfl ?_); refine goesL_ (some 12) rfl rfl Try.func23 (by kernel_rfl) rfl #[.float .f64 a0] rfl (by (try simp only [List.map_toArray, List.map_cons, List.map_nil]); first | done | rfl | (simp only [List.length_drop, List.length_take]; rfl)) ?_; (with_reducible refine (math_IsNaN.calls a0 true _ A9.out).mono ?_); rintro e w' ⟨rfl, ⟨nd, rfl⟩⟩; refine ⟨_, rfl, ?_⟩) | (go_at_call 23; (with_reducible refine (math_IsNaN.calls a1 t185 _ A11.out).mono ?_); rintro e w' ⟨rfl, ⟨nd, rfl⟩⟩))
            go_meet
            case rel => exact ⟨_, (t185), (by first | rfl | (simp; done) | (simp [*]; done)), H', ⟨by have := HJ2.out; first | omega | exact Nat.le_refl _⟩, by repeat (first | exact Drawn0.refl _ | apply Drawn0.step)⟩
          · replace c10 := Bool.eq_false_iff.mpr c10
            subst c10
            have H1 : (turncockref1_Order.j1 kj2 a0 false) = some r := by rw [if_neg (show ¬ (false = true) by decide)] at H; exact H
            clear H
            have H := H1
            clear H1
            have H' := Aside0.mk H
            clear H
            go_wp2_with (first | ((with_reducible refine gate_callee (f := 23) rfl ?_); refine goesL_ (some 12) rfl rfl Try.func23 (by kernel_rfl) rfl #[.float .f64 a0] rfl (by (try simp only [List.map_toArray, List.map_cons, List.map_nil]); first | done | rfl | (simp only [List.length_drop, List.length_take]; rfl)) ?_; (with_reducible refine (math_IsNaN.calls a0 false _ A9.out).mono ?_); rintro e w' ⟨rfl, ⟨nd, rfl⟩⟩; refine ⟨_, rfl, ?_⟩))
            go_meet
            case rel => exact ⟨_, (false), (by first | rfl | (simp; done) | (simp [*]; done)), H', ⟨by have := HJ2.out; first | omega | exact Nat.le_refl _⟩, by repeat (first | exact Drawn0.refl _ | apply Drawn0.step)⟩
        case rest =>
          clear HC8
          try clear c1
          try clear c2
          try clear p2
          try clear c5
          try clear c7
          try clear c10
          try clear p2
          obtain ⟨kq, x16_7, rfl, HA, HJ7, ⟨mc7, rfl⟩⟩ := hcut
          cases kq with
          | zero => exact absurd HA.out (by simp [turncockref1_Order.j1])
          | succ kj7 =>
            have H := HA.out
            clear HA
            simp only [turncockref1_Order.j1] at H
            by_cases c12 : x16_7 = true
            · subst c12
              have H1 : (some 0) = some r := by rw [if_pos rfl] at H; exact H
              clear H
              have H := H1
              clear H1
              obtain rfl := Option.some.inj H
              go_wp2
              go_ret
              exact ⟨by first | rfl | (simp; done) | (simp [*]; done), by repeat (first | exact Drawn0.refl _ | apply Drawn0.step)⟩
            · replace c12 := Bool.eq_false_iff.mpr c12
              subst c12
              have H1 : ((math_IsNaN.f a0).bind fun t186 => (if t186 = true then (some 1) else (some (-1)))) = some r := by rw [if_neg (show ¬ (false = true) by decide)] at H; exact H
              clear H
              have H := H1
              clear H1
              replace H := Option.bind_eq_some_iff.mp H
              obtain ⟨t186, A130, H⟩ := H
              replace H : (if t186 = true then (some 1) else (some (-1))) = some r := H
              have A13 := Aside0.mk A130
              clear A130
              by_cases c14 : t186 = true
              · subst c14
                have H1 : (some 1) = some r := by rw [if_pos rfl] at H; exact H
                clear H
                have H := H1
                clear H1
                obtain rfl := Option.some.inj H
                go_wp2_with (first | ((with_reducible refine gate_callee (f := 23) rfl ?_); refine goesL_ (some 18) rfl rfl Try.func23 (by kernel_rfl) rfl #[.float .f64 a0] rfl (by (try simp only [List.map_toArray, List.map_cons, List.map_nil]); first | done | rfl | (simp only [List.length_drop, List.length_take]; rfl)) ?_; (with_reducible refine (math_IsNaN.calls a0 true _ A13.out).mono ?_); rintro e w' ⟨rfl, ⟨nd, rfl⟩⟩; refine ⟨_, rfl, ?_⟩))
                go_ret
                exact ⟨by first | rfl | (simp; done) | (simp [*]; done), by repeat (first | exact Drawn0.refl _ | apply Drawn0.step)⟩
              · replace c14 := Bool.eq_false_iff.mpr c14
                subst c14
                have H1 : (some (-1)) = some r := by rw [if_neg (show ¬ (false = true) by decide)] at H; exact H
                clear H
                have H := H1
                clear H1
                obtain rfl := Option.some.inj H
                go_wp2_with (first | ((with_reducible refine gate_callee (f := 23) rfl ?_); refine goesL_ (some 18) rfl rfl Try.func23 (by kernel_rfl) rfl #[.float .f64 a0] rfl (by (try simp only [List.map_toArray, List.map_cons, List.map_nil]); first | done | rfl | (simp only [List.length_drop, List.length_take]; rfl)) ?_; (with_reducible refine (math_IsNaN.calls a0 false _ A13.out).mono ?_); rintro e w' ⟨rfl, ⟨nd, rfl⟩⟩; refine ⟨_, rfl, ?_⟩))
                go_ret
                exact ⟨by first | rfl | (simp; done) | (simp [*]; done), by repeat (first | exact Drawn0.refl _ | apply Drawn0.step)⟩
      · replace c7 := Bool.eq_false_iff.mpr c7
        subst c7
        have H1 : (if (flt a0 a1) = true then (some (-1)) else (if (fgt a0 a1) = true then (some 1) else ((math_Signbit.f a0).bind fun t187 => ((math_Signbit.f a1).bind fun t188 => (if (t187 == t188) = true then (some 0) else ((math_Signbit.f a0).bind fun t189 => (if t189 = true then (some (-1)) else (some 1)))))))) = some r := by rw [if_neg (show ¬ (false = true) by decide)] at H; exact H
        clear H
        have H := H1
        clear H1
        by_cases c15 : (flt a0 a1) = true
        · rw [if_pos c15] at H
          have c15b0 : (flt a0 a1) = true := c15
          clear c15
          obtain rfl := Option.some.inj H
          go_wp2
          go_ret
          exact ⟨by first | rfl | (simp; done) | (simp [*]; done), by repeat (first | exact Drawn0.refl _ | apply Drawn0.step)⟩
        · rw [if_neg c15] at H
          have c15b0 : (flt a0 a1) = false := by simpa using c15
          clear c15
          by_cases c16 : (fgt a0 a1) = true
          · rw [if_pos c16] at H
            have c16b0 : (fgt a0 a1) = true := c16
            clear c16
            obtain rfl := Option.some.inj H
            go_wp2
            go_ret
            exact ⟨by first | rfl | (simp; done) | (simp [*]; done), by repeat (first | exact Drawn0.refl _ | apply Drawn0.step)⟩
          · rw [if_neg c16] at H
            have c16b0 : (fgt a0 a1) = false := by simpa using c16
            clear c16
            replace H := Option.bind_eq_some_iff.mp H
            obtain ⟨t187, A170, H⟩ := H
            replace H : ((math_Signbit.f a1).bind fun t188 => (if (t187 == t188) = true then (some 0) else ((math_Signbit.f a0).bind fun t189 => (if t189 = true then (some (-1)) else (some 1))))) = some r := H
            have A17 := Aside0.mk A170
            clear A170
            replace H := Option.bind_eq_some_iff.mp H
            obtain ⟨t188, A180, H⟩ := H
            replace H : (if (t187 == t188) = true then (some 0) else ((math_Signbit.f a0).bind fun t189 => (if t189 = true then (some (-1)) else (some 1)))) = some r := H
            have A18 := Aside0.mk A180
            clear A180
            by_cases c19 : (t187 == t188) = true
            · rw [if_pos c19] at H
              have c19b0 : (t187 == t188) = true := c19
              (try (have c19b1 : decide (t187 = t188) = true := by simpa using c19))
              (try (have c19b2 : (t187 == t188) = true := by simpa using c19))
              clear c19
              obtain rfl := Option.some.inj H
              go_wp2_with (first | ((with_reducible refine gate_callee (f := 26) rfl ?_); refine goesL_ (some 26) rfl rfl Try.func26 (by kernel_rfl) rfl #[.float .f64 a0] rfl (by (try simp only [List.map_toArray, List.map_cons, List.map_nil]); first | done | rfl | (simp only [List.length_drop, List.length_take]; rfl)) ?_; (with_reducible refine (math_Signbit.calls a0 t187 _ A17.out).mono ?_); rintro e w' ⟨rfl, ⟨nd, rfl⟩⟩; refine ⟨_, rfl, ?_⟩) | ((with_reducible refine gate_callee (f := 26) rfl ?_); refine goesL_ (some 28) rfl rfl Try.func26 (by kernel_rfl) rfl #[.float .f64 a1] rfl (by (try simp only [List.map_toArray, List.map_cons, List.map_nil]); first | done | rfl | (simp only [List.length_drop, List.length_take]; rfl)) ?_; (with_reducible refine (math_Signbit.calls a1 t188 _ A18.out).mono ?_); rintro e w' ⟨rfl, ⟨nd, rfl⟩⟩; refine ⟨_, rfl, ?_⟩))
              go_ret
              exact ⟨by first | rfl | (simp; done) | (simp [*]; done), by repeat (first | exact Drawn0.refl _ | apply Drawn0.step)⟩
            · rw [if_neg c19] at H
              have c19b0 : (t187 == t188) = false := by simpa using c19
              (try (have c19b1 : decide (t187 = t188) = false := by simpa using c19))
              (try (have c19b2 : (t187 == t188) = false := by simpa using c19))
              (try (have c19b3 : ¬ (t187 = t188) := by simpa using c19))
              clear c19
              replace H := Option.bind_eq_some_iff.mp H
              obtain ⟨t189, A200, H⟩ := H
              replace H : (if t189 = true then (some (-1)) else (some 1)) = some r := H
              have A20 := Aside0.mk A200
              clear A200
              by_cases c21 : t189 = true
              · subst c21
                have H1 : (some (-1)) = some r := by rw [if_pos rfl] at H; exact H
                clear H
                have H := H1
                clear H1
                obtain rfl := Option.some.inj H
                go_wp2_with (first | ((with_reducible refine gate_callee (f := 26) rfl ?_); refine goesL_ (some 26) rfl rfl Try.func26 (by kernel_rfl) rfl #[.float .f64 a0] rfl (by (try simp only [List.map_toArray, List.map_cons, List.map_nil]); first | done | rfl | (simp only [List.length_drop, List.length_take]; rfl)) ?_; (with_reducible refine (math_Signbit.calls a0 t187 _ A17.out).mono ?_); rintro e w' ⟨rfl, ⟨nd, rfl⟩⟩; refine ⟨_, rfl, ?_⟩) | ((with_reducible refine gate_callee (f := 26) rfl ?_); refine goesL_ (some 28) rfl rfl Try.func26 (by kernel_rfl) rfl #[.float .f64 a1] rfl (by (try simp only [List.map_toArray, List.map_cons, List.map_nil]); first | done | rfl | (simp only [List.length_drop, List.length_take]; rfl)) ?_; (with_reducible refine (math_Signbit.calls a1 t188 _ A18.out).mono ?_); rintro e w' ⟨rfl, ⟨nd, rfl⟩⟩; refine ⟨_, rfl, ?_⟩) | ((with_reducible refine gate_callee (f := 26) rfl ?_); refine goesL_ (some 31) rfl rfl Try.func26 (by kernel_rfl) rfl #[.float .f64 a0] rfl (by (try simp only [List.map_toArray, List.map_cons, List.map_nil]); first | done | rfl | (simp only [List.length_drop, List.length_take]; rfl)) ?_; (with_reducible refine (math_Signbit.calls a0 true _ A20.out).mono ?_); rintro e w' ⟨rfl, ⟨nd, rfl⟩⟩; refine ⟨_, rfl, ?_⟩))
                go_ret
                exact ⟨by first | rfl | (simp; done) | (simp [*]; done), by repeat (first | exact Drawn0.refl _ | apply Drawn0.step)⟩
              · replace c21 := Bool.eq_false_iff.mpr c21
                subst c21
                have H1 : (some 1) = some r := by rw [if_neg (show ¬ (false = true) by decide)] at H; exact H
                clear H
                have H := H1
                clear H1
                obtain rfl := Option.some.inj H
                go_wp2_with (first | ((with_reducible refine gate_callee (f := 26) rfl ?_); refine goesL_ (some 26) rfl rfl Try.func26 (by kernel_rfl) rfl #[.float .f64 a0] rfl (by (try simp only [List.map_toArray, List.map_cons, List.map_nil]); first | done | rfl | (simp only [List.length_drop, List.length_take]; rfl)) ?_; (with_reducible refine (math_Signbit.calls a0 t187 _ A17.out).mono ?_); rintro e w' ⟨rfl, ⟨nd, rfl⟩⟩; refine ⟨_, rfl, ?_⟩) | ((with_reducible refine gate_callee (f := 26) rfl ?_); refine goesL_ (some 28) rfl rfl Try.func26 (by kernel_rfl) rfl #[.float .f64 a1] rfl (by (try simp only [List.map_toArray, List.map_cons, List.map_nil]); first | done | rfl | (simp only [List.length_drop, List.length_take]; rfl)) ?_; (with_reducible refine (math_Signbit.calls a1 t188 _ A18.out).mono ?_); rintro e w' ⟨rfl, ⟨nd, rfl⟩⟩; refine ⟨_, rfl, ?_⟩) | ((with_reducible refine gate_callee (f := 26) rfl ?_); refine goesL_ (some 31) rfl rfl Try.func26 (by kernel_rfl) rfl #[.float .f64 a0] rfl (by (try simp only [List.map_toArray, List.map_cons, List.map_nil]); first | done | rfl | (simp only [List.length_drop, List.length_take]; rfl)) ?_; (with_reducible refine (math_Signbit.calls a0 false _ A20.out).mono ?_); rintro e w' ⟨rfl, ⟨nd, rfl⟩⟩; refine ⟨_, rfl, ?_⟩))
                go_ret
                exact ⟨by first | rfl | (simp; done) | (simp [*]; done), by repeat (first | exact Drawn0.refl _ | apply Drawn0.step)⟩

end Go.Proofs.Ytoopmkinpandfaa.PRatioOrder
