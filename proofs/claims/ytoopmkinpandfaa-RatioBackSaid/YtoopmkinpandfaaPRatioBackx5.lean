-- WRITTEN BY THIS SESSION'S mprint.py upon the print: some functions are proved by hand
import Derived.Test.YtoopmkinpandfaaPRatioBackx0
import Derived.Test.YtoopmkinpandfaaPRatioBackx1
import Derived.Test.YtoopmkinpandfaaPRatioBackx2
import Derived.Test.YtoopmkinpandfaaPRatioBackx3
import Derived.Test.YtoopmkinpandfaaPRatioBackx4
namespace Go.Proofs.Ytoopmkinpandfaa.PRatioBack
open Go.RowKit Go.Proofs.YtoopmkinpandfaaW.PrintWords Go.Proofs.YtoopmkinpandfaaW.PrintLast Go.Proofs.YtoopmkinpandfaaW.PrintMore
attribute [local go_sem] max2_int min2_int max_two min_two max_three min_three max_four min_four   -- for this text's walks alone
set_option linter.unusedVariables false
set_option linter.unusedSimpArgs false

/-! ### turncocklaw5_awake: function 24 -/
theorem math_IsNaN.sim {z t : Nat} {r : Bool} (h : fsim z t) (e : math_IsNaN.f t = some r) : math_IsNaN.f z = some r := by
  rcases h with rfl | ⟨h1, h2⟩
  · exact e
  · unfold math_IsNaN.f at *
    rw [fne_nan h1]
    rw [fne_nan h2] at e
    exact e
theorem math_NaN.two {a b : Nat} {r : Bool} (h1 : math_NaN.f = some a) (h2 : math_NaN.f = some b) (h : ratio_Same.f a b = some r) : ratio_Same.f a a = some r := by
  have e : a = b := Option.some.inj (h1.symm.trans h2)
  rw [← e] at h; exact h
theorem ratio_Text.sim {k z t : Nat} {r : ByteArray} (h : fsim z t) (e : ratio_Text.f k t = some r) : ratio_Text.f k z = some r := by
  rcases h with rfl | ⟨h1, h2⟩
  · exact e
  · unfold ratio_Text.f math_IsNaN.f at *
    rw [fne_nan h1, Option.bind_some, if_pos rfl]
    rw [fne_nan h2, Option.bind_some, if_pos rfl] at e
    exact e
def turncocklaw5_awake.g (k : Nat)  : Option (Bool) := (ratio_Parse.f k (⟨#[45, 48]⟩ : ByteArray)).bind fun bt164 => ((ratio_Write.f k 4602678819172646912).bind fun bt166 => ((ratio_Parse.f k (⟨#[48, 49]⟩ : ByteArray)).bind fun bt168 => ((ratio_Of.f 0 0).bind fun t170 => ((math_IsNaN.f t170).bind fun t171 => (if t171 = true then ((ratio_Of.f 0 0).bind fun t172 => ((ratio_Text.f k t172).bind fun t173 => (if t173.toList = ([110, 97, 110] : List UInt8) then ((ratio_Near.f k 10 4605380978949069210).bind fun t174 => (if t174 = 8 then (if bt164.2 = true then (if (feq bt164.1 0) = true then ((math_Signbit.f bt164.1).bind fun t175 => (if t175 = true then ((ratio_Text.f k bt164.1).bind fun t176 => (if t176.toList = ([45, 48, 46, 48, 48, 48] : List UInt8) then (if bt166.1.toList = ([48, 46, 53] : List UInt8) then (if bt166.2 = true then (if bt168.2 = true then (some false) else ((ratio_Order.f bt164.1 0).bind fun t177 => (if t177 = (-1) then ((ratio_Same.f bt164.1 0).bind fun t178 => (if t178 = true then (some false) else ((math_NaN.f).bind fun t179 => ((math_NaN.f).bind fun t180 => ((ratio_Same.f t179 t180).bind fun t181 => (some t181)))))) else (some false)))) else (some false)) else (some false)) else (some false))) else (some false))) else (some false)) else (some false)) else (some false))) else (some false)))) else (some false))))))
theorem turncocklaw5_awake.gmono : ∀ k, LeO (turncocklaw5_awake.g k ) (turncocklaw5_awake.g (k + 1) ) := by
  intro  k
  unfold turncocklaw5_awake.g
  repeat' first
      | (with_reducible exact ratio_Near.mono _ _ _)
      | (with_reducible exact ratio_Parse.mono _ _)
      | (with_reducible exact ratio_Text.mono _ _)
      | (with_reducible exact ratio_Write.mono _ _)
      | (with_reducible exact LeO.refl _)
      | (with_reducible exact LeO.none _)
      | (with_reducible refine LeO.ite ?_ ?_)
      | (with_reducible refine LeO.bind ?_ (fun _ => ?_))
      | exact ratio_Near.mono _ _ _
      | exact ratio_Parse.mono _ _
      | exact ratio_Text.mono _ _
      | exact ratio_Write.mono _ _
      | exact LeO.none _
      | refine LeO.ite ?_ ?_
      | refine LeO.bind ?_ (fun _ => ?_)
set_option maxHeartbeats 8000000 in
set_option maxRecDepth 100000 in
theorem turncocklaw5_awake.gcalls (k : Nat)  (r : Bool) (w : World) (h : turncocklaw5_awake.g k  = some r) (hr_ : r = true) :
    Calls Try.prog 24 #[] w fun e w' => e = .returned (.bool r) ∧ Below w.heap.size w w' := by
  have HB := Aside0.mk (Below.refl w.heap.size w)
  have H : ((ratio_Parse.f k (⟨#[45, 48]⟩ : ByteArray)).bind fun bt164 => ((ratio_Write.f k 4602678819172646912).bind fun bt166 => ((ratio_Parse.f k (⟨#[48, 49]⟩ : ByteArray)).bind fun bt168 => ((ratio_Of.f 0 0).bind fun t170 => ((math_IsNaN.f t170).bind fun t171 => (if t171 = true then ((ratio_Of.f 0 0).bind fun t172 => ((ratio_Text.f k t172).bind fun t173 => (if t173.toList = ([110, 97, 110] : List UInt8) then ((ratio_Near.f k 10 4605380978949069210).bind fun t174 => (if t174 = 8 then (if bt164.2 = true then (if (feq bt164.1 0) = true then ((math_Signbit.f bt164.1).bind fun t175 => (if t175 = true then ((ratio_Text.f k bt164.1).bind fun t176 => (if t176.toList = ([45, 48, 46, 48, 48, 48] : List UInt8) then (if bt166.1.toList = ([48, 46, 53] : List UInt8) then (if bt166.2 = true then (if bt168.2 = true then (some false) else ((ratio_Order.f bt164.1 0).bind fun t177 => (if t177 = (-1) then ((ratio_Same.f bt164.1 0).bind fun t178 => (if t178 = true then (some false) else ((math_NaN.f).bind fun t179 => ((math_NaN.f).bind fun t180 => ((ratio_Same.f t179 t180).bind fun t181 => (some t181)))))) else (some false)))) else (some false)) else (some false)) else (some false))) else (some false))) else (some false)) else (some false)) else (some false))) else (some false)))) else (some false))))))) = some r := h
  clear h
  replace H := Option.bind_eq_some_iff.mp H
  obtain ⟨⟨t164, t165⟩, A10, H⟩ := H
  replace H : ((ratio_Write.f k 4602678819172646912).bind fun bt166 => ((ratio_Parse.f k (⟨#[48, 49]⟩ : ByteArray)).bind fun bt168 => ((ratio_Of.f 0 0).bind fun t170 => ((math_IsNaN.f t170).bind fun t171 => (if t171 = true then ((ratio_Of.f 0 0).bind fun t172 => ((ratio_Text.f k t172).bind fun t173 => (if t173.toList = ([110, 97, 110] : List UInt8) then ((ratio_Near.f k 10 4605380978949069210).bind fun t174 => (if t174 = 8 then (if t165 = true then (if (feq t164 0) = true then ((math_Signbit.f t164).bind fun t175 => (if t175 = true then ((ratio_Text.f k t164).bind fun t176 => (if t176.toList = ([45, 48, 46, 48, 48, 48] : List UInt8) then (if bt166.1.toList = ([48, 46, 53] : List UInt8) then (if bt166.2 = true then (if bt168.2 = true then (some false) else ((ratio_Order.f t164 0).bind fun t177 => (if t177 = (-1) then ((ratio_Same.f t164 0).bind fun t178 => (if t178 = true then (some false) else ((math_NaN.f).bind fun t179 => ((math_NaN.f).bind fun t180 => ((ratio_Same.f t179 t180).bind fun t181 => (some t181)))))) else (some false)))) else (some false)) else (some false)) else (some false))) else (some false))) else (some false)) else (some false)) else (some false))) else (some false)))) else (some false)))))) = some r := H
  have A1 := Aside0.mk A10
  clear A10
  replace H := Option.bind_eq_some_iff.mp H
  obtain ⟨⟨t166, t167⟩, A20, H⟩ := H
  replace H : ((ratio_Parse.f k (⟨#[48, 49]⟩ : ByteArray)).bind fun bt168 => ((ratio_Of.f 0 0).bind fun t170 => ((math_IsNaN.f t170).bind fun t171 => (if t171 = true then ((ratio_Of.f 0 0).bind fun t172 => ((ratio_Text.f k t172).bind fun t173 => (if t173.toList = ([110, 97, 110] : List UInt8) then ((ratio_Near.f k 10 4605380978949069210).bind fun t174 => (if t174 = 8 then (if t165 = true then (if (feq t164 0) = true then ((math_Signbit.f t164).bind fun t175 => (if t175 = true then ((ratio_Text.f k t164).bind fun t176 => (if t176.toList = ([45, 48, 46, 48, 48, 48] : List UInt8) then (if t166.toList = ([48, 46, 53] : List UInt8) then (if t167 = true then (if bt168.2 = true then (some false) else ((ratio_Order.f t164 0).bind fun t177 => (if t177 = (-1) then ((ratio_Same.f t164 0).bind fun t178 => (if t178 = true then (some false) else ((math_NaN.f).bind fun t179 => ((math_NaN.f).bind fun t180 => ((ratio_Same.f t179 t180).bind fun t181 => (some t181)))))) else (some false)))) else (some false)) else (some false)) else (some false))) else (some false))) else (some false)) else (some false)) else (some false))) else (some false)))) else (some false))))) = some r := H
  have A2 := Aside0.mk A20
  clear A20
  replace H := Option.bind_eq_some_iff.mp H
  obtain ⟨⟨t168, t169⟩, A30, H⟩ := H
  replace H : ((ratio_Of.f 0 0).bind fun t170 => ((math_IsNaN.f t170).bind fun t171 => (if t171 = true then ((ratio_Of.f 0 0).bind fun t172 => ((ratio_Text.f k t172).bind fun t173 => (if t173.toList = ([110, 97, 110] : List UInt8) then ((ratio_Near.f k 10 4605380978949069210).bind fun t174 => (if t174 = 8 then (if t165 = true then (if (feq t164 0) = true then ((math_Signbit.f t164).bind fun t175 => (if t175 = true then ((ratio_Text.f k t164).bind fun t176 => (if t176.toList = ([45, 48, 46, 48, 48, 48] : List UInt8) then (if t166.toList = ([48, 46, 53] : List UInt8) then (if t167 = true then (if t169 = true then (some false) else ((ratio_Order.f t164 0).bind fun t177 => (if t177 = (-1) then ((ratio_Same.f t164 0).bind fun t178 => (if t178 = true then (some false) else ((math_NaN.f).bind fun t179 => ((math_NaN.f).bind fun t180 => ((ratio_Same.f t179 t180).bind fun t181 => (some t181)))))) else (some false)))) else (some false)) else (some false)) else (some false))) else (some false))) else (some false)) else (some false)) else (some false))) else (some false)))) else (some false)))) = some r := H
  have A3 := Aside0.mk A30
  clear A30
  replace H := Option.bind_eq_some_iff.mp H
  obtain ⟨t170, A40, H⟩ := H
  replace H : ((math_IsNaN.f t170).bind fun t171 => (if t171 = true then ((ratio_Of.f 0 0).bind fun t172 => ((ratio_Text.f k t172).bind fun t173 => (if t173.toList = ([110, 97, 110] : List UInt8) then ((ratio_Near.f k 10 4605380978949069210).bind fun t174 => (if t174 = 8 then (if t165 = true then (if (feq t164 0) = true then ((math_Signbit.f t164).bind fun t175 => (if t175 = true then ((ratio_Text.f k t164).bind fun t176 => (if t176.toList = ([45, 48, 46, 48, 48, 48] : List UInt8) then (if t166.toList = ([48, 46, 53] : List UInt8) then (if t167 = true then (if t169 = true then (some false) else ((ratio_Order.f t164 0).bind fun t177 => (if t177 = (-1) then ((ratio_Same.f t164 0).bind fun t178 => (if t178 = true then (some false) else ((math_NaN.f).bind fun t179 => ((math_NaN.f).bind fun t180 => ((ratio_Same.f t179 t180).bind fun t181 => (some t181)))))) else (some false)))) else (some false)) else (some false)) else (some false))) else (some false))) else (some false)) else (some false)) else (some false))) else (some false)))) else (some false))) = some r := H
  have A4 := Aside0.mk A40
  clear A40
  replace H := Option.bind_eq_some_iff.mp H
  obtain ⟨t171, A50, H⟩ := H
  replace H : (if t171 = true then ((ratio_Of.f 0 0).bind fun t172 => ((ratio_Text.f k t172).bind fun t173 => (if t173.toList = ([110, 97, 110] : List UInt8) then ((ratio_Near.f k 10 4605380978949069210).bind fun t174 => (if t174 = 8 then (if t165 = true then (if (feq t164 0) = true then ((math_Signbit.f t164).bind fun t175 => (if t175 = true then ((ratio_Text.f k t164).bind fun t176 => (if t176.toList = ([45, 48, 46, 48, 48, 48] : List UInt8) then (if t166.toList = ([48, 46, 53] : List UInt8) then (if t167 = true then (if t169 = true then (some false) else ((ratio_Order.f t164 0).bind fun t177 => (if t177 = (-1) then ((ratio_Same.f t164 0).bind fun t178 => (if t178 = true then (some false) else ((math_NaN.f).bind fun t179 => ((math_NaN.f).bind fun t180 => ((ratio_Same.f t179 t180).bind fun t181 => (some t181)))))) else (some false)))) else (some false)) else (some false)) else (some false))) else (some false))) else (some false)) else (some false)) else (some false))) else (some false)))) else (some false)) = some r := H
  have A5 := Aside0.mk A50
  clear A50
  by_cases c6 : t171 = true
  · subst c6
    have H1 : ((ratio_Of.f 0 0).bind fun t172 => ((ratio_Text.f k t172).bind fun t173 => (if t173.toList = ([110, 97, 110] : List UInt8) then ((ratio_Near.f k 10 4605380978949069210).bind fun t174 => (if t174 = 8 then (if t165 = true then (if (feq t164 0) = true then ((math_Signbit.f t164).bind fun t175 => (if t175 = true then ((ratio_Text.f k t164).bind fun t176 => (if t176.toList = ([45, 48, 46, 48, 48, 48] : List UInt8) then (if t166.toList = ([48, 46, 53] : List UInt8) then (if t167 = true then (if t169 = true then (some false) else ((ratio_Order.f t164 0).bind fun t177 => (if t177 = (-1) then ((ratio_Same.f t164 0).bind fun t178 => (if t178 = true then (some false) else ((math_NaN.f).bind fun t179 => ((math_NaN.f).bind fun t180 => ((ratio_Same.f t179 t180).bind fun t181 => (some t181)))))) else (some false)))) else (some false)) else (some false)) else (some false))) else (some false))) else (some false)) else (some false)) else (some false))) else (some false)))) = some r := by rw [if_pos rfl] at H; exact H
    clear H
    have H := H1
    clear H1
    replace H := Option.bind_eq_some_iff.mp H
    obtain ⟨t172, A70, H⟩ := H
    replace H : ((ratio_Text.f k t172).bind fun t173 => (if t173.toList = ([110, 97, 110] : List UInt8) then ((ratio_Near.f k 10 4605380978949069210).bind fun t174 => (if t174 = 8 then (if t165 = true then (if (feq t164 0) = true then ((math_Signbit.f t164).bind fun t175 => (if t175 = true then ((ratio_Text.f k t164).bind fun t176 => (if t176.toList = ([45, 48, 46, 48, 48, 48] : List UInt8) then (if t166.toList = ([48, 46, 53] : List UInt8) then (if t167 = true then (if t169 = true then (some false) else ((ratio_Order.f t164 0).bind fun t177 => (if t177 = (-1) then ((ratio_Same.f t164 0).bind fun t178 => (if t178 = true then (some false) else ((math_NaN.f).bind fun t179 => ((math_NaN.f).bind fun t180 => ((ratio_Same.f t179 t180).bind fun t181 => (some t181)))))) else (some false)))) else (some false)) else (some false)) else (some false))) else (some false))) else (some false)) else (some false)) else (some false))) else (some false))) = some r := H
    have A7 := Aside0.mk A70
    clear A70
    replace H := Option.bind_eq_some_iff.mp H
    obtain ⟨t173, A80, H⟩ := H
    replace H : (if t173.toList = ([110, 97, 110] : List UInt8) then ((ratio_Near.f k 10 4605380978949069210).bind fun t174 => (if t174 = 8 then (if t165 = true then (if (feq t164 0) = true then ((math_Signbit.f t164).bind fun t175 => (if t175 = true then ((ratio_Text.f k t164).bind fun t176 => (if t176.toList = ([45, 48, 46, 48, 48, 48] : List UInt8) then (if t166.toList = ([48, 46, 53] : List UInt8) then (if t167 = true then (if t169 = true then (some false) else ((ratio_Order.f t164 0).bind fun t177 => (if t177 = (-1) then ((ratio_Same.f t164 0).bind fun t178 => (if t178 = true then (some false) else ((math_NaN.f).bind fun t179 => ((math_NaN.f).bind fun t180 => ((ratio_Same.f t179 t180).bind fun t181 => (some t181)))))) else (some false)))) else (some false)) else (some false)) else (some false))) else (some false))) else (some false)) else (some false)) else (some false))) else (some false)) = some r := H
    have A8 := Aside0.mk A80
    clear A80
    by_cases c9 : t173.toList = ([110, 97, 110] : List UInt8)
    · rw [if_pos c9] at H
      have c9b0 : (t173.toList == ([110, 97, 110] : List UInt8)) = true := beq_iff_eq.mpr c9
      have c9b1 : (t173.toList != ([110, 97, 110] : List UInt8)) = false := bne_eq_false_iff_eq.mpr c9
      clear c9
      replace H := Option.bind_eq_some_iff.mp H
      obtain ⟨t174, A100, H⟩ := H
      replace H : (if t174 = 8 then (if t165 = true then (if (feq t164 0) = true then ((math_Signbit.f t164).bind fun t175 => (if t175 = true then ((ratio_Text.f k t164).bind fun t176 => (if t176.toList = ([45, 48, 46, 48, 48, 48] : List UInt8) then (if t166.toList = ([48, 46, 53] : List UInt8) then (if t167 = true then (if t169 = true then (some false) else ((ratio_Order.f t164 0).bind fun t177 => (if t177 = (-1) then ((ratio_Same.f t164 0).bind fun t178 => (if t178 = true then (some false) else ((math_NaN.f).bind fun t179 => ((math_NaN.f).bind fun t180 => ((ratio_Same.f t179 t180).bind fun t181 => (some t181)))))) else (some false)))) else (some false)) else (some false)) else (some false))) else (some false))) else (some false)) else (some false)) else (some false)) = some r := H
      have A10 := Aside0.mk A100
      clear A100
      by_cases c11 : t174 = 8
      · rw [if_pos c11] at H
        have c11b0 : (t174 == 8) = true := beq_iff_eq.mpr c11
        have c11b1 : (t174 != 8) = false := bne_eq_false_iff_eq.mpr c11
        clear c11
        by_cases c12 : t165 = true
        · subst c12
          have H1 : (if (feq t164 0) = true then ((math_Signbit.f t164).bind fun t175 => (if t175 = true then ((ratio_Text.f k t164).bind fun t176 => (if t176.toList = ([45, 48, 46, 48, 48, 48] : List UInt8) then (if t166.toList = ([48, 46, 53] : List UInt8) then (if t167 = true then (if t169 = true then (some false) else ((ratio_Order.f t164 0).bind fun t177 => (if t177 = (-1) then ((ratio_Same.f t164 0).bind fun t178 => (if t178 = true then (some false) else ((math_NaN.f).bind fun t179 => ((math_NaN.f).bind fun t180 => ((ratio_Same.f t179 t180).bind fun t181 => (some t181)))))) else (some false)))) else (some false)) else (some false)) else (some false))) else (some false))) else (some false)) = some r := by rw [if_pos rfl] at H; exact H
          clear H
          have H := H1
          clear H1
          by_cases c13 : (feq t164 0) = true
          · rw [if_pos c13] at H
            have c13b0 : (feq t164 0) = true := c13
            clear c13
            replace H := Option.bind_eq_some_iff.mp H
            obtain ⟨t175, A140, H⟩ := H
            replace H : (if t175 = true then ((ratio_Text.f k t164).bind fun t176 => (if t176.toList = ([45, 48, 46, 48, 48, 48] : List UInt8) then (if t166.toList = ([48, 46, 53] : List UInt8) then (if t167 = true then (if t169 = true then (some false) else ((ratio_Order.f t164 0).bind fun t177 => (if t177 = (-1) then ((ratio_Same.f t164 0).bind fun t178 => (if t178 = true then (some false) else ((math_NaN.f).bind fun t179 => ((math_NaN.f).bind fun t180 => ((ratio_Same.f t179 t180).bind fun t181 => (some t181)))))) else (some false)))) else (some false)) else (some false)) else (some false))) else (some false)) = some r := H
            have A14 := Aside0.mk A140
            clear A140
            by_cases c15 : t175 = true
            · subst c15
              have H1 : ((ratio_Text.f k t164).bind fun t176 => (if t176.toList = ([45, 48, 46, 48, 48, 48] : List UInt8) then (if t166.toList = ([48, 46, 53] : List UInt8) then (if t167 = true then (if t169 = true then (some false) else ((ratio_Order.f t164 0).bind fun t177 => (if t177 = (-1) then ((ratio_Same.f t164 0).bind fun t178 => (if t178 = true then (some false) else ((math_NaN.f).bind fun t179 => ((math_NaN.f).bind fun t180 => ((ratio_Same.f t179 t180).bind fun t181 => (some t181)))))) else (some false)))) else (some false)) else (some false)) else (some false))) = some r := by rw [if_pos rfl] at H; exact H
              clear H
              have H := H1
              clear H1
              replace H := Option.bind_eq_some_iff.mp H
              obtain ⟨t176, A160, H⟩ := H
              replace H : (if t176.toList = ([45, 48, 46, 48, 48, 48] : List UInt8) then (if t166.toList = ([48, 46, 53] : List UInt8) then (if t167 = true then (if t169 = true then (some false) else ((ratio_Order.f t164 0).bind fun t177 => (if t177 = (-1) then ((ratio_Same.f t164 0).bind fun t178 => (if t178 = true then (some false) else ((math_NaN.f).bind fun t179 => ((math_NaN.f).bind fun t180 => ((ratio_Same.f t179 t180).bind fun t181 => (some t181)))))) else (some false)))) else (some false)) else (some false)) else (some false)) = some r := H
              have A16 := Aside0.mk A160
              clear A160
              by_cases c17 : t176.toList = ([45, 48, 46, 48, 48, 48] : List UInt8)
              · rw [if_pos c17] at H
                have c17b0 : (t176.toList == ([45, 48, 46, 48, 48, 48] : List UInt8)) = true := beq_iff_eq.mpr c17
                have c17b1 : (t176.toList != ([45, 48, 46, 48, 48, 48] : List UInt8)) = false := bne_eq_false_iff_eq.mpr c17
                clear c17
                by_cases c18 : t166.toList = ([48, 46, 53] : List UInt8)
                · rw [if_pos c18] at H
                  have c18b0 : (t166.toList == ([48, 46, 53] : List UInt8)) = true := beq_iff_eq.mpr c18
                  have c18b1 : (t166.toList != ([48, 46, 53] : List UInt8)) = false := bne_eq_false_iff_eq.mpr c18
                  clear c18
                  by_cases c19 : t167 = true
                  · subst c19
                    have H1 : (if t169 = true then (some false) else ((ratio_Order.f t164 0).bind fun t177 => (if t177 = (-1) then ((ratio_Same.f t164 0).bind fun t178 => (if t178 = true then (some false) else ((math_NaN.f).bind fun t179 => ((math_NaN.f).bind fun t180 => ((ratio_Same.f t179 t180).bind fun t181 => (some t181)))))) else (some false)))) = some r := by rw [if_pos rfl] at H; exact H
                    clear H
                    have H := H1
                    clear H1
                    by_cases c20 : t169 = true
                    · subst c20
                      have H1 : (some false) = some r := by rw [if_pos rfl] at H; exact H
                      clear H
                      have H := H1
                      clear H1
                      exact absurd ((Option.some.inj H).trans hr_) (by decide)
                    · replace c20 := Bool.eq_false_iff.mpr c20
                      subst c20
                      have H1 : ((ratio_Order.f t164 0).bind fun t177 => (if t177 = (-1) then ((ratio_Same.f t164 0).bind fun t178 => (if t178 = true then (some false) else ((math_NaN.f).bind fun t179 => ((math_NaN.f).bind fun t180 => ((ratio_Same.f t179 t180).bind fun t181 => (some t181)))))) else (some false))) = some r := by rw [if_neg (show ¬ (false = true) by decide)] at H; exact H
                      clear H
                      have H := H1
                      clear H1
                      replace H := Option.bind_eq_some_iff.mp H
                      obtain ⟨t177, A270, H⟩ := H
                      replace H : (if t177 = (-1) then ((ratio_Same.f t164 0).bind fun t178 => (if t178 = true then (some false) else ((math_NaN.f).bind fun t179 => ((math_NaN.f).bind fun t180 => ((ratio_Same.f t179 t180).bind fun t181 => (some t181)))))) else (some false)) = some r := H
                      have A27 := Aside0.mk A270
                      clear A270
                      by_cases c28 : t177 = (-1)
                      · rw [if_pos c28] at H
                        have c28b0 : (t177 == (-1)) = true := beq_iff_eq.mpr c28
                        have c28b1 : (t177 != (-1)) = false := bne_eq_false_iff_eq.mpr c28
                        clear c28
                        replace H := Option.bind_eq_some_iff.mp H
                        obtain ⟨t178, A290, H⟩ := H
                        replace H : (if t178 = true then (some false) else ((math_NaN.f).bind fun t179 => ((math_NaN.f).bind fun t180 => ((ratio_Same.f t179 t180).bind fun t181 => (some t181))))) = some r := H
                        have A29 := Aside0.mk A290
                        clear A290
                        by_cases c30 : t178 = true
                        · subst c30
                          have H1 : (some false) = some r := by rw [if_pos rfl] at H; exact H
                          clear H
                          have H := H1
                          clear H1
                          exact absurd ((Option.some.inj H).trans hr_) (by decide)
                        · replace c30 := Bool.eq_false_iff.mpr c30
                          subst c30
                          have H1 : ((math_NaN.f).bind fun t179 => ((math_NaN.f).bind fun t180 => ((ratio_Same.f t179 t180).bind fun t181 => (some t181)))) = some r := by rw [if_neg (show ¬ (false = true) by decide)] at H; exact H
                          clear H
                          have H := H1
                          clear H1
                          replace H := Option.bind_eq_some_iff.mp H
                          obtain ⟨t179, A370, H⟩ := H
                          replace H : ((math_NaN.f).bind fun t180 => ((ratio_Same.f t179 t180).bind fun t181 => (some t181))) = some r := H
                          have A37 := Aside0.mk A370
                          clear A370
                          replace H := Option.bind_eq_some_iff.mp H
                          obtain ⟨t180, A380, H⟩ := H
                          replace H : ((ratio_Same.f t179 t180).bind fun t181 => (some t181)) = some r := H
                          have A38 := Aside0.mk A380
                          clear A380
                          replace H := Option.bind_eq_some_iff.mp H
                          obtain ⟨t181, A390, H⟩ := H
                          replace H : (some t181) = some r := H
                          have A39 := Aside0.mk A390
                          clear A390
                          first
                            | exact absurd ((Option.some.inj H).trans hr_) (by decide)
                            | (obtain rfl := Option.some.inj H
                               clear hr_
                               go_enter Try.func24, Try.ntmps24
                               go_wp2_with (first | ((with_reducible refine gate_callee (f := 34) rfl ?_); refine goesL_ (some 8) rfl rfl Try.func34 (by kernel_rfl) rfl #[.string (⟨#[45, 48]⟩ : ByteArray)] rfl (by (try simp only [List.map_toArray, List.map_cons, List.map_nil]); first | done | rfl | (simp only [List.length_drop, List.length_take]; rfl)) ?_; (with_reducible refine (ratio_Parse.calls k (⟨#[45, 48]⟩ : ByteArray) t164 true _ A1.out).mono ?_); rintro e w40 ⟨rfl, hb⟩; refine ⟨_, rfl, ?_⟩; have n0_ := Aside0.mk (below_step (by repeat (first | (with_reducible first | exact HB.out | apply below_alloc | apply pw_below_drewN | apply below_drew1) | exact HB.out)) hb); clear HB; have HB := n0_; clear n0_; (try clear hb); (try clear hb2); (try clear hk); (try clear hi)) | ((with_reducible refine gate_callee (f := 35) rfl ?_); refine goesL_ (some 12) rfl rfl Try.func35 (by kernel_rfl) rfl #[.float .f64 4602678819172646912] rfl (by (try simp only [List.map_toArray, List.map_cons, List.map_nil]); first | done | rfl | (simp only [List.length_drop, List.length_take]; rfl)) ?_; (with_reducible refine (ratio_Write.calls k 4602678819172646912 t166 true _ A2.out).mono ?_); rintro e w41 ⟨rfl, hb⟩; refine ⟨_, rfl, ?_⟩; have n0_ := Aside0.mk (below_step (by repeat (first | (with_reducible first | exact HB.out | apply below_alloc | apply pw_below_drewN | apply below_drew1) | exact HB.out)) hb); clear HB; have HB := n0_; clear n0_; (try clear hb); (try clear hb2); (try clear hk); (try clear hi)) | ((with_reducible refine gate_callee (f := 34) rfl ?_); refine goesL_ (some 16) rfl rfl Try.func34 (by kernel_rfl) rfl #[.string (⟨#[48, 49]⟩ : ByteArray)] rfl (by (try simp only [List.map_toArray, List.map_cons, List.map_nil]); first | done | rfl | (simp only [List.length_drop, List.length_take]; rfl)) ?_; (with_reducible refine (ratio_Parse.calls k (⟨#[48, 49]⟩ : ByteArray) t168 false _ A3.out).mono ?_); rintro e w42 ⟨rfl, hb⟩; refine ⟨_, rfl, ?_⟩; have n0_ := Aside0.mk (below_step (by repeat (first | (with_reducible first | exact HB.out | apply below_alloc | apply pw_below_drewN | apply below_drew1) | exact HB.out)) hb); clear HB; have HB := n0_; clear n0_; (try clear hb); (try clear hb2); (try clear hk); (try clear hi)) | ((with_reducible refine gate_callee (f := 21) rfl ?_); refine goesL_ (some 19) rfl rfl Try.func21 (by kernel_rfl) rfl #[.int .i64 0, .int .i64 0] rfl (by (try simp only [List.map_toArray, List.map_cons, List.map_nil]); first | done | rfl | (simp only [List.length_drop, List.length_take]; rfl)) ?_; (with_reducible refine (ratio_Of.calls 0 0 t170 _ A4.out).mono ?_); rintro e w' ⟨zt170, hsz_t1700, rfl, ⟨nd, rfl⟩⟩; have hsz_t170 := Aside0.mk hsz_t1700; clear hsz_t1700; refine ⟨_, rfl, ?_⟩) | ((with_reducible refine gate_callee (f := 23) rfl ?_); refine goesL_ (some 20) rfl rfl Try.func23 (by kernel_rfl) rfl #[.float .f64 zt170] rfl (by (try simp only [List.map_toArray, List.map_cons, List.map_nil]); first | done | rfl | (simp only [List.length_drop, List.length_take]; rfl)) ?_; (with_reducible refine (math_IsNaN.calls zt170 true _ (math_IsNaN.sim hsz_t170.out A5.out)).mono ?_); rintro e w' ⟨rfl, ⟨nd, rfl⟩⟩; refine ⟨_, rfl, ?_⟩) | (go_at_call 21; (with_reducible refine (ratio_Of.calls 0 0 t172 _ A7.out).mono ?_); rintro e w' ⟨zt172, hsz_t1720, rfl, ⟨nd, rfl⟩⟩; have hsz_t172 := Aside0.mk hsz_t1720; clear hsz_t1720) | (go_at_call 37; (with_reducible refine (ratio_Text.calls k zt172 t173 _ (ratio_Text.sim hsz_t172.out A8.out)).mono ?_); rintro e w43 ⟨rfl, hb⟩; have n0_ := Aside0.mk (below_step (by repeat (first | (with_reducible first | exact HB.out | apply below_alloc | apply pw_below_drewN | apply below_drew1) | exact HB.out)) hb); clear HB; have HB := n0_; clear n0_; (try clear hb); (try clear hb2); (try clear hk); (try clear hi)) | (go_at_call 32; (with_reducible refine (ratio_Near.calls k 10 4605380978949069210 t174 _ A10.out).mono ?_); rintro e w44 ⟨rfl, hb⟩; have n0_ := Aside0.mk (below_step (by repeat (first | (with_reducible first | exact HB.out | apply below_alloc | apply pw_below_drewN | apply below_drew1) | exact HB.out)) hb); clear HB; have HB := n0_; clear n0_; (try clear hb); (try clear hb2); (try clear hk); (try clear hi)) | (go_at_call 26; (with_reducible refine (math_Signbit.calls t164 true _ A14.out).mono ?_); rintro e w' ⟨rfl, ⟨nd, rfl⟩⟩) | (go_at_call 37; (with_reducible refine (ratio_Text.calls k t164 t176 _ A16.out).mono ?_); rintro e w45 ⟨rfl, hb⟩; have n0_ := Aside0.mk (below_step (by repeat (first | (with_reducible first | exact HB.out | apply below_alloc | apply pw_below_drewN | apply below_drew1) | exact HB.out)) hb); clear HB; have HB := n0_; clear n0_; (try clear hb); (try clear hb2); (try clear hk); (try clear hi)) | (go_at_call 28; (with_reducible refine (ratio_Order.calls t164 0 t177 _ A27.out).mono ?_); rintro e w' ⟨rfl, ⟨nd, rfl⟩⟩) | (go_at_call 30; (with_reducible refine (ratio_Same.calls t164 0 false _ A29.out).mono ?_); rintro e w' ⟨rfl, ⟨nd, rfl⟩⟩) | (go_at_call 33; (with_reducible refine (math_NaN.calls  t179 _ A37.out).mono ?_); rintro e w' ⟨rfl, ⟨nd, rfl⟩⟩) | (go_at_call 33; (with_reducible refine (math_NaN.calls  t180 _ A38.out).mono ?_); rintro e w' ⟨rfl, ⟨nd, rfl⟩⟩) | (go_at_call 30; (with_reducible refine (ratio_Same.calls t179 t179 t181 _ (math_NaN.two A37.out A38.out A39.out)).mono ?_); rintro e w' ⟨rfl, ⟨nd, rfl⟩⟩))
                               go_ret
                               exact ⟨by first | rfl | (simp [errW_none, errW_some] <;> rfl) | (simp [*, errW_none, errW_some] <;> rfl), by repeat (first | (with_reducible first | exact HB.out | apply below_alloc | apply pw_below_drewN | apply below_drew1) | exact HB.out)⟩)
                      · rw [if_neg c28] at H
                        have c28b0 : (t177 == (-1)) = false := beq_eq_false_iff_ne.mpr c28
                        have c28b1 : (t177 != (-1)) = true := bne_iff_ne.mpr c28
                        exact absurd ((Option.some.inj H).trans hr_) (by decide)
                  · replace c19 := Bool.eq_false_iff.mpr c19
                    subst c19
                    have H1 : (some false) = some r := by rw [if_neg (show ¬ (false = true) by decide)] at H; exact H
                    clear H
                    have H := H1
                    clear H1
                    exact absurd ((Option.some.inj H).trans hr_) (by decide)
                · rw [if_neg c18] at H
                  have c18b0 : (t166.toList == ([48, 46, 53] : List UInt8)) = false := beq_eq_false_iff_ne.mpr c18
                  have c18b1 : (t166.toList != ([48, 46, 53] : List UInt8)) = true := bne_iff_ne.mpr c18
                  exact absurd ((Option.some.inj H).trans hr_) (by decide)
              · rw [if_neg c17] at H
                have c17b0 : (t176.toList == ([45, 48, 46, 48, 48, 48] : List UInt8)) = false := beq_eq_false_iff_ne.mpr c17
                have c17b1 : (t176.toList != ([45, 48, 46, 48, 48, 48] : List UInt8)) = true := bne_iff_ne.mpr c17
                exact absurd ((Option.some.inj H).trans hr_) (by decide)
            · replace c15 := Bool.eq_false_iff.mpr c15
              subst c15
              have H1 : (some false) = some r := by rw [if_neg (show ¬ (false = true) by decide)] at H; exact H
              clear H
              have H := H1
              clear H1
              exact absurd ((Option.some.inj H).trans hr_) (by decide)
          · rw [if_neg c13] at H
            have c13b0 : (feq t164 0) = false := by simpa using c13
            clear c13
            exact absurd ((Option.some.inj H).trans hr_) (by decide)
        · replace c12 := Bool.eq_false_iff.mpr c12
          subst c12
          have H1 : (some false) = some r := by rw [if_neg (show ¬ (false = true) by decide)] at H; exact H
          clear H
          have H := H1
          clear H1
          exact absurd ((Option.some.inj H).trans hr_) (by decide)
      · rw [if_neg c11] at H
        have c11b0 : (t174 == 8) = false := beq_eq_false_iff_ne.mpr c11
        have c11b1 : (t174 != 8) = true := bne_iff_ne.mpr c11
        exact absurd ((Option.some.inj H).trans hr_) (by decide)
    · rw [if_neg c9] at H
      have c9b0 : (t173.toList == ([110, 97, 110] : List UInt8)) = false := beq_eq_false_iff_ne.mpr c9
      have c9b1 : (t173.toList != ([110, 97, 110] : List UInt8)) = true := bne_iff_ne.mpr c9
      exact absurd ((Option.some.inj H).trans hr_) (by decide)
  · replace c6 := Bool.eq_false_iff.mpr c6
    subst c6
    have H1 : (some false) = some r := by rw [if_neg (show ¬ (false = true) by decide)] at H; exact H
    clear H
    have H := H1
    clear H1
    exact absurd ((Option.some.inj H).trans hr_) (by decide)
def turncocklaw5_awake.f (k : Nat) : Option (Bool) := if turncocklaw5_awake.g k = some true then some true else none
theorem turncocklaw5_awake.mono : ∀ k, LeO (turncocklaw5_awake.f k ) (turncocklaw5_awake.f (k + 1) ) := by
  intro k r h
  unfold turncocklaw5_awake.f at h ⊢
  split at h
  · rename_i hg; rw [if_pos (turncocklaw5_awake.gmono k _ hg)]; exact h
  · cases h
theorem turncocklaw5_awake.calls (k : Nat) (r : Bool) (w : World) (h : turncocklaw5_awake.f k = some r) :
    Calls Try.prog 24 #[] w fun e w' => e = .returned (.bool r) ∧ Below w.heap.size w w' := by
  unfold turncocklaw5_awake.f at h
  split at h
  · rename_i hg; obtain rfl := Option.some.inj h; exact turncocklaw5_awake.gcalls k true w hg rfl
  · cases h

/-! ### turncocklaw5_RatioBack: function 10 -/
def turncocklaw5_RatioBack.f (k : Nat) (a0 : ByteArray) : Option (Bool) := (ratio_Parse.f k a0).bind fun bt182 => (if bt182.2 = true then ((ratio_Write.f k bt182.1).bind fun bt185 => ((ratio_Parse.f k bt185.1).bind fun bt187 => (if bt185.2 = true then (if bt187.2 = true then ((ratio_Same.f bt182.1 bt187.1).bind fun t189 => (if t189 = true then (if (bt185.1.size : Int) ≤ (a0.size : Int) then ((turncocklaw5_awake.f k).bind fun t190 => (some t190)) else (some false)) else (some false))) else (some false)) else (some false)))) else ((turncocklaw5_awake.f k).bind fun t184 => (some t184)))
theorem turncocklaw5_RatioBack.mono : ∀ a0 k, LeO (turncocklaw5_RatioBack.f k a0) (turncocklaw5_RatioBack.f (k + 1) a0) := by
  intro a0 k
  unfold turncocklaw5_RatioBack.f
  repeat' first
      | (with_reducible exact ratio_Parse.mono _ _)
      | (with_reducible exact ratio_Write.mono _ _)
      | (with_reducible exact turncocklaw5_awake.mono _)
      | (with_reducible exact LeO.refl _)
      | (with_reducible exact LeO.none _)
      | (with_reducible refine LeO.ite ?_ ?_)
      | (with_reducible refine LeO.bind ?_ (fun _ => ?_))
      | exact ratio_Parse.mono _ _
      | exact ratio_Write.mono _ _
      | exact turncocklaw5_awake.mono _
      | exact LeO.none _
      | refine LeO.ite ?_ ?_
      | refine LeO.bind ?_ (fun _ => ?_)
set_option maxHeartbeats 8000000 in
set_option maxRecDepth 100000 in
theorem turncocklaw5_RatioBack.calls (k : Nat) (a0 : ByteArray) (r : Bool) (w : World) (h : turncocklaw5_RatioBack.f k a0 = some r) (hr_ : r = true) :
    Calls Try.prog 10 #[.string a0] w fun e w' => e = .returned (.bool r) ∧ Below w.heap.size w w' := by
  have HB := Aside0.mk (Below.refl w.heap.size w)
  have H : ((ratio_Parse.f k a0).bind fun bt182 => (if bt182.2 = true then ((ratio_Write.f k bt182.1).bind fun bt185 => ((ratio_Parse.f k bt185.1).bind fun bt187 => (if bt185.2 = true then (if bt187.2 = true then ((ratio_Same.f bt182.1 bt187.1).bind fun t189 => (if t189 = true then (if (bt185.1.size : Int) ≤ (a0.size : Int) then ((turncocklaw5_awake.f k).bind fun t190 => (some t190)) else (some false)) else (some false))) else (some false)) else (some false)))) else ((turncocklaw5_awake.f k).bind fun t184 => (some t184)))) = some r := h
  clear h
  replace H := Option.bind_eq_some_iff.mp H
  obtain ⟨⟨t182, t183⟩, A20, H⟩ := H
  replace H : (if t183 = true then ((ratio_Write.f k t182).bind fun bt185 => ((ratio_Parse.f k bt185.1).bind fun bt187 => (if bt185.2 = true then (if bt187.2 = true then ((ratio_Same.f t182 bt187.1).bind fun t189 => (if t189 = true then (if (bt185.1.size : Int) ≤ (a0.size : Int) then ((turncocklaw5_awake.f k).bind fun t190 => (some t190)) else (some false)) else (some false))) else (some false)) else (some false)))) else ((turncocklaw5_awake.f k).bind fun t184 => (some t184))) = some r := H
  have A2 := Aside0.mk A20
  clear A20
  by_cases c3 : t183 = true
  · subst c3
    have H1 : ((ratio_Write.f k t182).bind fun bt185 => ((ratio_Parse.f k bt185.1).bind fun bt187 => (if bt185.2 = true then (if bt187.2 = true then ((ratio_Same.f t182 bt187.1).bind fun t189 => (if t189 = true then (if (bt185.1.size : Int) ≤ (a0.size : Int) then ((turncocklaw5_awake.f k).bind fun t190 => (some t190)) else (some false)) else (some false))) else (some false)) else (some false)))) = some r := by rw [if_pos rfl] at H; exact H
    clear H
    have H := H1
    clear H1
    replace H := Option.bind_eq_some_iff.mp H
    obtain ⟨⟨t185, t186⟩, A40, H⟩ := H
    replace H : ((ratio_Parse.f k t185).bind fun bt187 => (if t186 = true then (if bt187.2 = true then ((ratio_Same.f t182 bt187.1).bind fun t189 => (if t189 = true then (if (t185.size : Int) ≤ (a0.size : Int) then ((turncocklaw5_awake.f k).bind fun t190 => (some t190)) else (some false)) else (some false))) else (some false)) else (some false))) = some r := H
    have A4 := Aside0.mk A40
    clear A40
    replace H := Option.bind_eq_some_iff.mp H
    obtain ⟨⟨t187, t188⟩, A50, H⟩ := H
    replace H : (if t186 = true then (if t188 = true then ((ratio_Same.f t182 t187).bind fun t189 => (if t189 = true then (if (t185.size : Int) ≤ (a0.size : Int) then ((turncocklaw5_awake.f k).bind fun t190 => (some t190)) else (some false)) else (some false))) else (some false)) else (some false)) = some r := H
    have A5 := Aside0.mk A50
    clear A50
    by_cases c6 : t186 = true
    · subst c6
      have H1 : (if t188 = true then ((ratio_Same.f t182 t187).bind fun t189 => (if t189 = true then (if (t185.size : Int) ≤ (a0.size : Int) then ((turncocklaw5_awake.f k).bind fun t190 => (some t190)) else (some false)) else (some false))) else (some false)) = some r := by rw [if_pos rfl] at H; exact H
      clear H
      have H := H1
      clear H1
      by_cases c7 : t188 = true
      · subst c7
        have H1 : ((ratio_Same.f t182 t187).bind fun t189 => (if t189 = true then (if (t185.size : Int) ≤ (a0.size : Int) then ((turncocklaw5_awake.f k).bind fun t190 => (some t190)) else (some false)) else (some false))) = some r := by rw [if_pos rfl] at H; exact H
        clear H
        have H := H1
        clear H1
        replace H := Option.bind_eq_some_iff.mp H
        obtain ⟨t189, A80, H⟩ := H
        replace H : (if t189 = true then (if (t185.size : Int) ≤ (a0.size : Int) then ((turncocklaw5_awake.f k).bind fun t190 => (some t190)) else (some false)) else (some false)) = some r := H
        have A8 := Aside0.mk A80
        clear A80
        by_cases c9 : t189 = true
        · subst c9
          have H1 : (if (t185.size : Int) ≤ (a0.size : Int) then ((turncocklaw5_awake.f k).bind fun t190 => (some t190)) else (some false)) = some r := by rw [if_pos rfl] at H; exact H
          clear H
          have H := H1
          clear H1
          by_cases c10 : (t185.size : Int) ≤ (a0.size : Int)
          · rw [if_pos c10] at H
            have c10b0 : decide ((t185.size : Int) ≤ (a0.size : Int)) = true := decide_eq_true c10
            have c10b1 : decide (t185.size ≤ a0.size) = true := decide_eq_true (Int.ofNat_le.mp c10)
            clear c10
            replace H := Option.bind_eq_some_iff.mp H
            obtain ⟨t190, A110, H⟩ := H
            replace H : (some t190) = some r := H
            have A11 := Aside0.mk A110
            clear A110
            first
              | exact absurd ((Option.some.inj H).trans hr_) (by decide)
              | (obtain rfl := Option.some.inj H
                 clear hr_
                 go_enter Try.func10, Try.ntmps10
                 go_wp2_with (first | ((with_reducible refine gate_callee (f := 34) rfl ?_); refine goesL_ (some 11) rfl rfl Try.func34 (by kernel_rfl) rfl #[.string a0] rfl (by (try simp only [List.map_toArray, List.map_cons, List.map_nil]); first | done | rfl | (simp only [List.length_drop, List.length_take]; rfl)) ?_; (with_reducible refine (ratio_Parse.calls k a0 t182 true _ A2.out).mono ?_); rintro e w12 ⟨rfl, hb⟩; refine ⟨_, rfl, ?_⟩; have n0_ := Aside0.mk (below_step (by repeat (first | (with_reducible first | exact HB.out | apply below_alloc | apply pw_below_drewN | apply below_drew1) | exact HB.out)) hb); clear HB; have HB := n0_; clear n0_; (try clear hb); (try clear hb2); (try clear hk); (try clear hi)) | ((with_reducible refine gate_callee (f := 35) rfl ?_); refine goesL_ (some 19) rfl rfl Try.func35 (by kernel_rfl) rfl #[.float .f64 t182] rfl (by (try simp only [List.map_toArray, List.map_cons, List.map_nil]); first | done | rfl | (simp only [List.length_drop, List.length_take]; rfl)) ?_; (with_reducible refine (ratio_Write.calls k t182 t185 true _ A4.out).mono ?_); rintro e w13 ⟨rfl, hb⟩; refine ⟨_, rfl, ?_⟩; have n0_ := Aside0.mk (below_step (by repeat (first | (with_reducible first | exact HB.out | apply below_alloc | apply pw_below_drewN | apply below_drew1) | exact HB.out)) hb); clear HB; have HB := n0_; clear n0_; (try clear hb); (try clear hb2); (try clear hk); (try clear hi)) | ((with_reducible refine gate_callee (f := 34) rfl ?_); refine goesL_ (some 24) rfl rfl Try.func34 (by kernel_rfl) rfl #[.string t185] rfl (by (try simp only [List.map_toArray, List.map_cons, List.map_nil]); first | done | rfl | (simp only [List.length_drop, List.length_take]; rfl)) ?_; (with_reducible refine (ratio_Parse.calls k t185 t187 true _ A5.out).mono ?_); rintro e w14 ⟨rfl, hb⟩; refine ⟨_, rfl, ?_⟩; have n0_ := Aside0.mk (below_step (by repeat (first | (with_reducible first | exact HB.out | apply below_alloc | apply pw_below_drewN | apply below_drew1) | exact HB.out)) hb); clear HB; have HB := n0_; clear n0_; (try clear hb); (try clear hb2); (try clear hk); (try clear hi)) | (go_at_call 30; (with_reducible refine (ratio_Same.calls t182 t187 true _ A8.out).mono ?_); rintro e w' ⟨rfl, ⟨nd, rfl⟩⟩) | (go_at_call 24; (with_reducible refine (turncocklaw5_awake.calls k  t190 _ A11.out).mono ?_); rintro e w15 ⟨rfl, hb⟩; have n0_ := Aside0.mk (below_step (by repeat (first | (with_reducible first | exact HB.out | apply below_alloc | apply pw_below_drewN | apply below_drew1) | exact HB.out)) hb); clear HB; have HB := n0_; clear n0_; (try clear hb); (try clear hb2); (try clear hk); (try clear hi)))
                 go_ret
                 exact ⟨by first | rfl | (simp [errW_none, errW_some] <;> rfl) | (simp [*, errW_none, errW_some] <;> rfl), by repeat (first | (with_reducible first | exact HB.out | apply below_alloc | apply pw_below_drewN | apply below_drew1) | exact HB.out)⟩)
          · rw [if_neg c10] at H
            have c10b0 : decide ((t185.size : Int) ≤ (a0.size : Int)) = false := decide_eq_false c10
            have c10b1 : decide (t185.size ≤ a0.size) = false := decide_eq_false (fun h => c10 (Int.ofNat_le.mpr h))
            clear c10
            exact absurd ((Option.some.inj H).trans hr_) (by decide)
        · replace c9 := Bool.eq_false_iff.mpr c9
          subst c9
          have H1 : (some false) = some r := by rw [if_neg (show ¬ (false = true) by decide)] at H; exact H
          clear H
          have H := H1
          clear H1
          exact absurd ((Option.some.inj H).trans hr_) (by decide)
      · replace c7 := Bool.eq_false_iff.mpr c7
        subst c7
        have H1 : (some false) = some r := by rw [if_neg (show ¬ (false = true) by decide)] at H; exact H
        clear H
        have H := H1
        clear H1
        exact absurd ((Option.some.inj H).trans hr_) (by decide)
    · replace c6 := Bool.eq_false_iff.mpr c6
      subst c6
      have H1 : (some false) = some r := by rw [if_neg (show ¬ (false = true) by decide)] at H; exact H
      clear H
      have H := H1
      clear H1
      exact absurd ((Option.some.inj H).trans hr_) (by decide)
  · replace c3 := Bool.eq_false_iff.mpr c3
    subst c3
    have H1 : ((turncocklaw5_awake.f k).bind fun t184 => (some t184)) = some r := by rw [if_neg (show ¬ (false = true) by decide)] at H; exact H
    clear H
    have H := H1
    clear H1
    replace H := Option.bind_eq_some_iff.mp H
    obtain ⟨t184, A280, H⟩ := H
    replace H : (some t184) = some r := H
    have A28 := Aside0.mk A280
    clear A280
    first
      | exact absurd ((Option.some.inj H).trans hr_) (by decide)
      | (obtain rfl := Option.some.inj H
         clear hr_
         go_enter Try.func10, Try.ntmps10
         go_wp2_with (first | ((with_reducible refine gate_callee (f := 34) rfl ?_); refine goesL_ (some 11) rfl rfl Try.func34 (by kernel_rfl) rfl #[.string a0] rfl (by (try simp only [List.map_toArray, List.map_cons, List.map_nil]); first | done | rfl | (simp only [List.length_drop, List.length_take]; rfl)) ?_; (with_reducible refine (ratio_Parse.calls k a0 t182 false _ A2.out).mono ?_); rintro e w29 ⟨rfl, hb⟩; refine ⟨_, rfl, ?_⟩; have n0_ := Aside0.mk (below_step (by repeat (first | (with_reducible first | exact HB.out | apply below_alloc | apply pw_below_drewN | apply below_drew1) | exact HB.out)) hb); clear HB; have HB := n0_; clear n0_; (try clear hb); (try clear hb2); (try clear hk); (try clear hi)) | ((with_reducible refine gate_callee (f := 24) rfl ?_); refine goesL_ (some 16) rfl rfl Try.func24 (by kernel_rfl) rfl #[] rfl (by (try simp only [List.map_toArray, List.map_cons, List.map_nil]); first | done | rfl | (simp only [List.length_drop, List.length_take]; rfl)) ?_; (with_reducible refine (turncocklaw5_awake.calls k  t184 _ A28.out).mono ?_); rintro e w30 ⟨rfl, hb⟩; refine ⟨_, rfl, ?_⟩; have n0_ := Aside0.mk (below_step (by repeat (first | (with_reducible first | exact HB.out | apply below_alloc | apply pw_below_drewN | apply below_drew1) | exact HB.out)) hb); clear HB; have HB := n0_; clear n0_; (try clear hb); (try clear hb2); (try clear hk); (try clear hi)))
         go_ret
         exact ⟨by first | rfl | (simp [errW_none, errW_some] <;> rfl) | (simp [*, errW_none, errW_some] <;> rfl), by repeat (first | (with_reducible first | exact HB.out | apply below_alloc | apply pw_below_drewN | apply below_drew1) | exact HB.out)⟩)

/-- THE ONE PURE STATEMENT of turncocklaw5_RatioBack: yours. -/
def turncocklaw5_RatioBack.Pure : Prop := ∀ (a0 : ByteArray), a0.size ≤ 140737488351232 → ∃ k, turncocklaw5_RatioBack.f k a0 = some true
theorem turncocklaw5_RatioBack.walk (P : turncocklaw5_RatioBack.Pure) (a0 : ByteArray) (w : World) (w0 : a0.size ≤ 140737488351232) :
    Calls Try.prog 10 #[.string a0] w fun e w' => e = .returned (.bool true) ∧ Below w.heap.size w w' := by
  obtain ⟨k, h⟩ := P a0 w0
  refine (turncocklaw5_RatioBack.calls k a0 true w h rfl).mono ?_
  rintro e w' ⟨rfl, hd⟩
  exact ⟨rfl, hd⟩

end Go.Proofs.Ytoopmkinpandfaa.PRatioBack
