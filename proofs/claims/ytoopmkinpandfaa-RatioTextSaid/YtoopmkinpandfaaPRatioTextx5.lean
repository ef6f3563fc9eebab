-- WRITTEN BY THIS SESSION'S mprint.py upon the print: some functions are proved by hand
import Derived.Test.YtoopmkinpandfaaPRatioTextx0
import Derived.Test.YtoopmkinpandfaaPRatioTextx1
import Derived.Test.YtoopmkinpandfaaPRatioTextx2
import Derived.Test.YtoopmkinpandfaaPRatioTextx3
import Derived.Test.YtoopmkinpandfaaPRatioTextx4
namespace Go.Proofs.Ytoopmkinpandfaa.PRatioText
open Go.RowKit Go.Proofs.YtoopmkinpandfaaW.PrintWords Go.Proofs.YtoopmkinpandfaaW.PrintLast Go.Proofs.YtoopmkinpandfaaW.PrintMore
attribute [local go_sem] max2_int min2_int max_two min_two max_three min_three max_four min_four   -- for this text's walks alone
set_option linter.unusedVariables false
set_option linter.unusedSimpArgs false

/-! ### turncocklaw5_awake: function 24 -/
theorem math_IsNaN.sim {z t : Nat} {r : Bool} (h : fsim z t) (e : math_IsNaN.f t = some r) : math_IsNaN.f z = some r := by
  rcases h with rfl | ⟨h1, h2⟩
  · exact e
  · unfold math_IsNaN.f at *
    rw [fne_nan h1]
    rw [fne_nan h2] at e
    exact e
theorem math_NaN.two {a b : Nat} {r : Bool} (h1 : math_NaN.f = some a) (h2 : math_NaN.f = some b) (h : ratio_Same.f a b = some r) : ratio_Same.f a a = some r := by
  have e : a = b := Option.some.inj (h1.symm.trans h2)
  rw [← e] at h; exact h
theorem ratio_Text.sim {k z t : Nat} {r : ByteArray} (h : fsim z t) (e : ratio_Text.f k t = some r) : ratio_Text.f k z = some r := by
  rcases h with rfl | ⟨h1, h2⟩
  · exact e
  · unfold ratio_Text.f math_IsNaN.f at *
    rw [fne_nan h1, Option.bind_some, if_pos rfl]
    rw [fne_nan h2, Option.bind_some, if_pos rfl] at e
    exact e
def turncocklaw5_awake.g (k : Nat)  : Option (Bool) := (ratio_Parse.f k (⟨#[45, 48]⟩ : ByteArray)).bind fun bt177 => ((ratio_Write.f k 4602678819172646912).bind fun bt179 => ((ratio_Parse.f k (⟨#[48, 49]⟩ : ByteArray)).bind fun bt181 => ((ratio_Of.f 0 0).bind fun t183 => ((math_IsNaN.f t183).bind fun t184 => (if t184 = true then ((ratio_Of.f 0 0).bind fun t185 => ((ratio_Text.f k t185).bind fun t186 => (if t186.toList = ([110, 97, 110] : List UInt8) then ((ratio_Near.f k 10 4605380978949069210).bind fun t187 => (if t187 = 8 then (if bt177.2 = true then (if (feq bt177.1 0) = true then ((math_Signbit.f bt177.1).bind fun t188 => (if t188 = true then ((ratio_Text.f k bt177.1).bind fun t189 => (if t189.toList = ([45, 48, 46, 48, 48, 48] : List UInt8) then (if bt179.1.toList = ([48, 46, 53] : List UInt8) then (if bt179.2 = true then (if bt181.2 = true then (some false) else ((ratio_Order.f bt177.1 0).bind fun t190 => (if t190 = (-1) then ((ratio_Same.f bt177.1 0).bind fun t191 => (if t191 = true then (some false) else ((math_NaN.f).bind fun t192 => ((math_NaN.f).bind fun t193 => ((ratio_Same.f t192 t193).bind fun t194 => (some t194)))))) else (some false)))) else (some false)) else (some false)) else (some false))) else (some false))) else (some false)) else (some false)) else (some false))) else (some false)))) else (some false))))))
theorem turncocklaw5_awake.gmono : ∀ k, LeO (turncocklaw5_awake.g k ) (turncocklaw5_awake.g (k + 1) ) := by
  intro  k
  unfold turncocklaw5_awake.g
  repeat' first
      | (with_reducible exact ratio_Near.mono _ _ _)
      | (with_reducible exact ratio_Parse.mono _ _)
      | (with_reducible exact ratio_Text.mono _ _)
      | (with_reducible exact ratio_Write.mono _ _)
      | (with_reducible exact LeO.refl _)
      | (with_reducible exact LeO.none _)
      | (with_reducible refine LeO.ite ?_ ?_)
      | (with_reducible refine LeO.bind ?_ (fun _ => ?_))
      | exact ratio_Near.mono _ _ _
      | exact ratio_Parse.mono _ _
      | exact ratio_Text.mono _ _
      | exact ratio_Write.mono _ _
      | exact LeO.none _
      | refine LeO.ite ?_ ?_
      | refine LeO.bind ?_ (fun _ => ?_)
set_option maxHeartbeats 8000000 in
set_option maxRecDepth 100000 in
theorem turncocklaw5_awake.gcalls (k : Nat)  (r : Bool) (w : World) (h : turncocklaw5_awake.g k  = some r) (hr_ : r = true) :
    Calls Try.prog 24 #[] w fun e w' => e = .returned (.bool r) ∧ Below w.heap.size w w' := by
  have HB := Aside0.mk (Below.refl w.heap.size w)
  have H : ((ratio_Parse.f k (⟨#[45, 48]⟩ : ByteArray)).bind fun bt177 => ((ratio_Write.f k 4602678819172646912).bind fun bt179 => ((ratio_Parse.f k (⟨#[48, 49]⟩ : ByteArray)).bind fun bt181 => ((ratio_Of.f 0 0).bind fun t183 => ((math_IsNaN.f t183).bind fun t184 => (if t184 = true then ((ratio_Of.f 0 0).bind fun t185 => ((ratio_Text.f k t185).bind fun t186 => (if t186.toList = ([110, 97, 110] : List UInt8) then ((ratio_Near.f k 10 4605380978949069210).bind fun t187 => (if t187 = 8 then (if bt177.2 = true then (if (feq bt177.1 0) = true then ((math_Signbit.f bt177.1).bind fun t188 => (if t188 = true then ((ratio_Text.f k bt177.1).bind fun t189 => (if t189.toList = ([45, 48, 46, 48, 48, 48] : List UInt8) then (if bt179.1.toList = ([48, 46, 53] : List UInt8) then (if bt179.2 = true then (if bt181.2 = true then (some false) else ((ratio_Order.f bt177.1 0).bind fun t190 => (if t190 = (-1) then ((ratio_Same.f bt177.1 0).bind fun t191 => (if t191 = true then (some false) else ((math_NaN.f).bind fun t192 => ((math_NaN.f).bind fun t193 => ((ratio_Same.f t192 t193).bind fun t194 => (some t194)))))) else (some false)))) else (some false)) else (some false)) else (some false))) else (some false))) else (some false)) else (some false)) else (some false))) else (some false)))) else (some false))))))) = some r := h
  clear h
  replace H := Option.bind_eq_some_iff.mp H
  obtain ⟨⟨t177, t178⟩, A10, H⟩ := H
  replace H : ((ratio_Write.f k 4602678819172646912).bind fun bt179 => ((ratio_Parse.f k (⟨#[48, 49]⟩ : ByteArray)).bind fun bt181 => ((ratio_Of.f 0 0).bind fun t183 => ((math_IsNaN.f t183).bind fun t184 => (if t184 = true then ((ratio_Of.f 0 0).bind fun t185 => ((ratio_Text.f k t185).bind fun t186 => (if t186.toList = ([110, 97, 110] : List UInt8) then ((ratio_Near.f k 10 4605380978949069210).bind fun t187 => (if t187 = 8 then (if t178 = true then (if (feq t177 0) = true then ((math_Signbit.f t177).bind fun t188 => (if t188 = true then ((ratio_Text.f k t177).bind fun t189 => (if t189.toList = ([45, 48, 46, 48, 48, 48] : List UInt8) then (if bt179.1.toList = ([48, 46, 53] : List UInt8) then (if bt179.2 = true then (if bt181.2 = true then (some false) else ((ratio_Order.f t177 0).bind fun t190 => (if t190 = (-1) then ((ratio_Same.f t177 0).bind fun t191 => (if t191 = true then (some false) else ((math_NaN.f).bind fun t192 => ((math_NaN.f).bind fun t193 => ((ratio_Same.f t192 t193).bind fun t194 => (some t194)))))) else (some false)))) else (some false)) else (some false)) else (some false))) else (some false))) else (some false)) else (some false)) else (some false))) else (some false)))) else (some false)))))) = some r := H
  have A1 := Aside0.mk A10
  clear A10
  replace H := Option.bind_eq_some_iff.mp H
  obtain ⟨⟨t179, t180⟩, A20, H⟩ := H
  replace H : ((ratio_Parse.f k (⟨#[48, 49]⟩ : ByteArray)).bind fun bt181 => ((ratio_Of.f 0 0).bind fun t183 => ((math_IsNaN.f t183).bind fun t184 => (if t184 = true then ((ratio_Of.f 0 0).bind fun t185 => ((ratio_Text.f k t185).bind fun t186 => (if t186.toList = ([110, 97, 110] : List UInt8) then ((ratio_Near.f k 10 4605380978949069210).bind fun t187 => (if t187 = 8 then (if t178 = true then (if (feq t177 0) = true then ((math_Signbit.f t177).bind fun t188 => (if t188 = true then ((ratio_Text.f k t177).bind fun t189 => (if t189.toList = ([45, 48, 46, 48, 48, 48] : List UInt8) then (if t179.toList = ([48, 46, 53] : List UInt8) then (if t180 = true then (if bt181.2 = true then (some false) else ((ratio_Order.f t177 0).bind fun t190 => (if t190 = (-1) then ((ratio_Same.f t177 0).bind fun t191 => (if t191 = true then (some false) else ((math_NaN.f).bind fun t192 => ((math_NaN.f).bind fun t193 => ((ratio_Same.f t192 t193).bind fun t194 => (some t194)))))) else (some false)))) else (some false)) else (some false)) else (some false))) else (some false))) else (some false)) else (some false)) else (some false))) else (some false)))) else (some false))))) = some r := H
  have A2 := Aside0.mk A20
  clear A20
  replace H := Option.bind_eq_some_iff.mp H
  obtain ⟨⟨t181, t182⟩, A30, H⟩ := H
  replace H : ((ratio_Of.f 0 0).bind fun t183 => ((math_IsNaN.f t183).bind fun t184 => (if t184 = true then ((ratio_Of.f 0 0).bind fun t185 => ((ratio_Text.f k t185).bind fun t186 => (if t186.toList = ([110, 97, 110] : List UInt8) then ((ratio_Near.f k 10 4605380978949069210).bind fun t187 => (if t187 = 8 then (if t178 = true then (if (feq t177 0) = true then ((math_Signbit.f t177).bind fun t188 => (if t188 = true then ((ratio_Text.f k t177).bind fun t189 => (if t189.toList = ([45, 48, 46, 48, 48, 48] : List UInt8) then (if t179.toList = ([48, 46, 53] : List UInt8) then (if t180 = true then (if t182 = true then (some false) else ((ratio_Order.f t177 0).bind fun t190 => (if t190 = (-1) then ((ratio_Same.f t177 0).bind fun t191 => (if t191 = true then (some false) else ((math_NaN.f).bind fun t192 => ((math_NaN.f).bind fun t193 => ((ratio_Same.f t192 t193).bind fun t194 => (some t194)))))) else (some false)))) else (some false)) else (some false)) else (some false))) else (some false))) else (some false)) else (some false)) else (some false))) else (some false)))) else (some false)))) = some r := H
  have A3 := Aside0.mk A30
  clear A30
  replace H := Option.bind_eq_some_iff.mp H
  obtain ⟨t183, A40, H⟩ := H
  replace H : ((math_IsNaN.f t183).bind fun t184 => (if t184 = true then ((ratio_Of.f 0 0).bind fun t185 => ((ratio_Text.f k t185).bind fun t186 => (if t186.toList = ([110, 97, 110] : List UInt8) then ((ratio_Near.f k 10 4605380978949069210).bind fun t187 => (if t187 = 8 then (if t178 = true then (if (feq t177 0) = true then ((math_Signbit.f t177).bind fun t188 => (if t188 = true then ((ratio_Text.f k t177).bind fun t189 => (if t189.toList = ([45, 48, 46, 48, 48, 48] : List UInt8) then (if t179.toList = ([48, 46, 53] : List UInt8) then (if t180 = true then (if t182 = true then (some false) else ((ratio_Order.f t177 0).bind fun t190 => (if t190 = (-1) then ((ratio_Same.f t177 0).bind fun t191 => (if t191 = true then (some false) else ((math_NaN.f).bind fun t192 => ((math_NaN.f).bind fun t193 => ((ratio_Same.f t192 t193).bind fun t194 => (some t194)))))) else (some false)))) else (some false)) else (some false)) else (some false))) else (some false))) else (some false)) else (some false)) else (some false))) else (some false)))) else (some false))) = some r := H
  have A4 := Aside0.mk A40
  clear A40
  replace H := Option.bind_eq_some_iff.mp H
  obtain ⟨t184, A50, H⟩ := H
  replace H : (if t184 = true then ((ratio_Of.f 0 0).bind fun t185 => ((ratio_Text.f k t185).bind fun t186 => (if t186.toList = ([110, 97, 110] : List UInt8) then ((ratio_Near.f k 10 4605380978949069210).bind fun t187 => (if t187 = 8 then (if t178 = true then (if (feq t177 0) = true then ((math_Signbit.f t177).bind fun t188 => (if t188 = true then ((ratio_Text.f k t177).bind fun t189 => (if t189.toList = ([45, 48, 46, 48, 48, 48] : List UInt8) then (if t179.toList = ([48, 46, 53] : List UInt8) then (if t180 = true then (if t182 = true then (some false) else ((ratio_Order.f t177 0).bind fun t190 => (if t190 = (-1) then ((ratio_Same.f t177 0).bind fun t191 => (if t191 = true then (some false) else ((math_NaN.f).bind fun t192 => ((math_NaN.f).bind fun t193 => ((ratio_Same.f t192 t193).bind fun t194 => (some t194)))))) else (some false)))) else (some false)) else (some false)) else (some false))) else (some false))) else (some false)) else (some false)) else (some false))) else (some false)))) else (some false)) = some r := H
  have A5 := Aside0.mk A50
  clear A50
  by_cases c6 : t184 = true
  · subst c6
    have H1 : ((ratio_Of.f 0 0).bind fun t185 => ((ratio_Text.f k t185).bind fun t186 => (if t186.toList = ([110, 97, 110] : List UInt8) then ((ratio_Near.f k 10 4605380978949069210).bind fun t187 => (if t187 = 8 then (if t178 = true then (if (feq t177 0) = true then ((math_Signbit.f t177).bind fun t188 => (if t188 = true then ((ratio_Text.f k t177).bind fun t189 => (if t189.toList = ([45, 48, 46, 48, 48, 48] : List UInt8) then (if t179.toList = ([48, 46, 53] : List UInt8) then (if t180 = true then (if t182 = true then (some false) else ((ratio_Order.f t177 0).bind fun t190 => (if t190 = (-1) then ((ratio_Same.f t177 0).bind fun t191 => (if t191 = true then (some false) else ((math_NaN.f).bind fun t192 => ((math_NaN.f).bind fun t193 => ((ratio_Same.f t192 t193).bind fun t194 => (some t194)))))) else (some false)))) else (some false)) else (some false)) else (some false))) else (some false))) else (some false)) else (some false)) else (some false))) else (some false)))) = some r := by rw [if_pos rfl] at H; exact H
    clear H
    have H := H1
    clear H1
    replace H := Option.bind_eq_some_iff.mp H
    obtain ⟨t185, A70, H⟩ := H
    replace H : ((ratio_Text.f k t185).bind fun t186 => (if t186.toList = ([110, 97, 110] : List UInt8) then ((ratio_Near.f k 10 4605380978949069210).bind fun t187 => (if t187 = 8 then (if t178 = true then (if (feq t177 0) = true then ((math_Signbit.f t177).bind fun t188 => (if t188 = true then ((ratio_Text.f k t177).bind fun t189 => (if t189.toList = ([45, 48, 46, 48, 48, 48] : List UInt8) then (if t179.toList = ([48, 46, 53] : List UInt8) then (if t180 = true then (if t182 = true then (some false) else ((ratio_Order.f t177 0).bind fun t190 => (if t190 = (-1) then ((ratio_Same.f t177 0).bind fun t191 => (if t191 = true then (some false) else ((math_NaN.f).bind fun t192 => ((math_NaN.f).bind fun t193 => ((ratio_Same.f t192 t193).bind fun t194 => (some t194)))))) else (some false)))) else (some false)) else (some false)) else (some false))) else (some false))) else (some false)) else (some false)) else (some false))) else (some false))) = some r := H
    have A7 := Aside0.mk A70
    clear A70
    replace H := Option.bind_eq_some_iff.mp H
    obtain ⟨t186, A80, H⟩ := H
    replace H : (if t186.toList = ([110, 97, 110] : List UInt8) then ((ratio_Near.f k 10 4605380978949069210).bind fun t187 => (if t187 = 8 then (if t178 = true then (if (feq t177 0) = true then ((math_Signbit.f t177).bind fun t188 => (if t188 = true then ((ratio_Text.f k t177).bind fun t189 => (if t189.toList = ([45, 48, 46, 48, 48, 48] : List UInt8) then (if t179.toList = ([48, 46, 53] : List UInt8) then (if t180 = true then (if t182 = true then (some false) else ((ratio_Order.f t177 0).bind fun t190 => (if t190 = (-1) then ((ratio_Same.f t177 0).bind fun t191 => (if t191 = true then (some false) else ((math_NaN.f).bind fun t192 => ((math_NaN.f).bind fun t193 => ((ratio_Same.f t192 t193).bind fun t194 => (some t194)))))) else (some false)))) else (some false)) else (some false)) else (some false))) else (some false))) else (some false)) else (some false)) else (some false))) else (some false)) = some r := H
    have A8 := Aside0.mk A80
    clear A80
    by_cases c9 : t186.toList = ([110, 97, 110] : List UInt8)
    · rw [if_pos c9] at H
      have c9b0 : (t186.toList == ([110, 97, 110] : List UInt8)) = true := beq_iff_eq.mpr c9
      have c9b1 : (t186.toList != ([110, 97, 110] : List UInt8)) = false := bne_eq_false_iff_eq.mpr c9
      clear c9
      replace H := Option.bind_eq_some_iff.mp H
      obtain ⟨t187, A100, H⟩ := H
      replace H : (if t187 = 8 then (if t178 = true then (if (feq t177 0) = true then ((math_Signbit.f t177).bind fun t188 => (if t188 = true then ((ratio_Text.f k t177).bind fun t189 => (if t189.toList = ([45, 48, 46, 48, 48, 48] : List UInt8) then (if t179.toList = ([48, 46, 53] : List UInt8) then (if t180 = true then (if t182 = true then (some false) else ((ratio_Order.f t177 0).bind fun t190 => (if t190 = (-1) then ((ratio_Same.f t177 0).bind fun t191 => (if t191 = true then (some false) else ((math_NaN.f).bind fun t192 => ((math_NaN.f).bind fun t193 => ((ratio_Same.f t192 t193).bind fun t194 => (some t194)))))) else (some false)))) else (some false)) else (some false)) else (some false))) else (some false))) else (some false)) else (some false)) else (some false)) = some r := H
      have A10 := Aside0.mk A100
      clear A100
      by_cases c11 : t187 = 8
      · rw [if_pos c11] at H
        have c11b0 : (t187 == 8) = true := beq_iff_eq.mpr c11
        have c11b1 : (t187 != 8) = false := bne_eq_false_iff_eq.mpr c11
        clear c11
        by_cases c12 : t178 = true
        · subst c12
          have H1 : (if (feq t177 0) = true then ((math_Signbit.f t177).bind fun t188 => (if t188 = true then ((ratio_Text.f k t177).bind fun t189 => (if t189.toList = ([45, 48, 46, 48, 48, 48] : List UInt8) then (if t179.toList = ([48, 46, 53] : List UInt8) then (if t180 = true then (if t182 = true then (some false) else ((ratio_Order.f t177 0).bind fun t190 => (if t190 = (-1) then ((ratio_Same.f t177 0).bind fun t191 => (if t191 = true then (some false) else ((math_NaN.f).bind fun t192 => ((math_NaN.f).bind fun t193 => ((ratio_Same.f t192 t193).bind fun t194 => (some t194)))))) else (some false)))) else (some false)) else (some false)) else (some false))) else (some false))) else (some false)) = some r := by rw [if_pos rfl] at H; exact H
          clear H
          have H := H1
          clear H1
          by_cases c13 : (feq t177 0) = true
          · rw [if_pos c13] at H
            have c13b0 : (feq t177 0) = true := c13
            clear c13
            replace H := Option.bind_eq_some_iff.mp H
            obtain ⟨t188, A140, H⟩ := H
            replace H : (if t188 = true then ((ratio_Text.f k t177).bind fun t189 => (if t189.toList = ([45, 48, 46, 48, 48, 48] : List UInt8) then (if t179.toList = ([48, 46, 53] : List UInt8) then (if t180 = true then (if t182 = true then (some false) else ((ratio_Order.f t177 0).bind fun t190 => (if t190 = (-1) then ((ratio_Same.f t177 0).bind fun t191 => (if t191 = true then (some false) else ((math_NaN.f).bind fun t192 => ((math_NaN.f).bind fun t193 => ((ratio_Same.f t192 t193).bind fun t194 => (some t194)))))) else (some false)))) else (some false)) else (some false)) else (some false))) else (some false)) = some r := H
            have A14 := Aside0.mk A140
            clear A140
            by_cases c15 : t188 = true
            · subst c15
              have H1 : ((ratio_Text.f k t177).bind fun t189 => (if t189.toList = ([45, 48, 46, 48, 48, 48] : List UInt8) then (if t179.toList = ([48, 46, 53] : List UInt8) then (if t180 = true then (if t182 = true then (some false) else ((ratio_Order.f t177 0).bind fun t190 => (if t190 = (-1) then ((ratio_Same.f t177 0).bind fun t191 => (if t191 = true then (some false) else ((math_NaN.f).bind fun t192 => ((math_NaN.f).bind fun t193 => ((ratio_Same.f t192 t193).bind fun t194 => (some t194)))))) else (some false)))) else (some false)) else (some false)) else (some false))) = some r := by rw [if_pos rfl] at H; exact H
              clear H
              have H := H1
              clear H1
              replace H := Option.bind_eq_some_iff.mp H
              obtain ⟨t189, A160, H⟩ := H
              replace H : (if t189.toList = ([45, 48, 46, 48, 48, 48] : List UInt8) then (if t179.toList = ([48, 46, 53] : List UInt8) then (if t180 = true then (if t182 = true then (some false) else ((ratio_Order.f t177 0).bind fun t190 => (if t190 = (-1) then ((ratio_Same.f t177 0).bind fun t191 => (if t191 = true then (some false) else ((math_NaN.f).bind fun t192 => ((math_NaN.f).bind fun t193 => ((ratio_Same.f t192 t193).bind fun t194 => (some t194)))))) else (some false)))) else (some false)) else (some false)) else (some false)) = some r := H
              have A16 := Aside0.mk A160
              clear A160
              by_cases c17 : t189.toList = ([45, 48, 46, 48, 48, 48] : List UInt8)
              · rw [if_pos c17] at H
                have c17b0 : (t189.toList == ([45, 48, 46, 48, 48, 48] : List UInt8)) = true := beq_iff_eq.mpr c17
                have c17b1 : (t189.toList != ([45, 48, 46, 48, 48, 48] : List UInt8)) = false := bne_eq_false_iff_eq.mpr c17
                clear c17
                by_cases c18 : t179.toList = ([48, 46, 53] : List UInt8)
                · rw [if_pos c18] at H
                  have c18b0 : (t179.toList == ([48, 46, 53] : List UInt8)) = true := beq_iff_eq.mpr c18
                  have c18b1 : (t179.toList != ([48, 46, 53] : List UInt8)) = false := bne_eq_false_iff_eq.mpr c18
                  clear c18
                  by_cases c19 : t180 = true
                  · subst c19
                    have H1 : (if t182 = true then (some false) else ((ratio_Order.f t177 0).bind fun t190 => (if t190 = (-1) then ((ratio_Same.f t177 0).bind fun t191 => (if t191 = true then (some false) else ((math_NaN.f).bind fun t192 => ((math_NaN.f).bind fun t193 => ((ratio_Same.f t192 t193).bind fun t194 => (some t194)))))) else (some false)))) = some r := by rw [if_pos rfl] at H; exact H
                    clear H
                    have H := H1
                    clear H1
                    by_cases c20 : t182 = true
                    · subst c20
                      have H1 : (some false) = some r := by rw [if_pos rfl] at H; exact H
                      clear H
                      have H := H1
                      clear H1
                      exact absurd ((Option.some.inj H).trans hr_) (by decide)
                    · replace c20 := Bool.eq_false_iff.mpr c20
                      subst c20
                      have H1 : ((ratio_Order.f t177 0).bind fun t190 => (if t190 = (-1) then ((ratio_Same.f t177 0).bind fun t191 => (if t191 = true then (some false) else ((math_NaN.f).bind fun t192 => ((math_NaN.f).bind fun t193 => ((ratio_Same.f t192 t193).bind fun t194 => (some t194)))))) else (some false))) = some r := by rw [if_neg (show ¬ (false = true) by decide)] at H; exact H
                      clear H
                      have H := H1
                      clear H1
                      replace H := Option.bind_eq_some_iff.mp H
                      obtain ⟨t190, A270, H⟩ := H
                      replace H : (if t190 = (-1) then ((ratio_Same.f t177 0).bind fun t191 => (if t191 = true then (some false) else ((math_NaN.f).bind fun t192 => ((math_NaN.f).bind fun t193 => ((ratio_Same.f t192 t193).bind fun t194 => (some t194)))))) else (some false)) = some r := H
                      have A27 := Aside0.mk A270
                      clear A270
                      by_cases c28 : t190 = (-1)
                      · rw [if_pos c28] at H
                        have c28b0 : (t190 == (-1)) = true := beq_iff_eq.mpr c28
                        have c28b1 : (t190 != (-1)) = false := bne_eq_false_iff_eq.mpr c28
                        clear c28
                        replace H := Option.bind_eq_some_iff.mp H
                        obtain ⟨t191, A290, H⟩ := H
                        replace H : (if t191 = true then (some false) else ((math_NaN.f).bind fun t192 => ((math_NaN.f).bind fun t193 => ((ratio_Same.f t192 t193).bind fun t194 => (some t194))))) = some r := H
                        have A29 := Aside0.mk A290
                        clear A290
                        by_cases c30 : t191 = true
                        · subst c30
                          have H1 : (some false) = some r := by rw [if_pos rfl] at H; exact H
                          clear H
                          have H := H1
                          clear H1
                          exact absurd ((Option.some.inj H).trans hr_) (by decide)
                        · replace c30 := Bool.eq_false_iff.mpr c30
                          subst c30
                          have H1 : ((math_NaN.f).bind fun t192 => ((math_NaN.f).bind fun t193 => ((ratio_Same.f t192 t193).bind fun t194 => (some t194)))) = some r := by rw [if_neg (show ¬ (false = true) by decide)] at H; exact H
                          clear H
                          have H := H1
                          clear H1
                          replace H := Option.bind_eq_some_iff.mp H
                          obtain ⟨t192, A370, H⟩ := H
                          replace H : ((math_NaN.f).bind fun t193 => ((ratio_Same.f t192 t193).bind fun t194 => (some t194))) = some r := H
                          have A37 := Aside0.mk A370
                          clear A370
                          replace H := Option.bind_eq_some_iff.mp H
                          obtain ⟨t193, A380, H⟩ := H
                          replace H : ((ratio_Same.f t192 t193).bind fun t194 => (some t194)) = some r := H
                          have A38 := Aside0.mk A380
                          clear A380
                          replace H := Option.bind_eq_some_iff.mp H
                          obtain ⟨t194, A390, H⟩ := H
                          replace H : (some t194) = some r := H
                          have A39 := Aside0.mk A390
                          clear A390
                          first
                            | exact absurd ((Option.some.inj H).trans hr_) (by decide)
                            | (obtain rfl := Option.some.inj H
                               clear hr_
                               go_enter Try.func24, Try.ntmps24
                               go_wp2_with (first | ((with_reducible refine gate_callee (f := 34) rfl ?_); refine goesL_ (some 8) rfl rfl Try.func34 (by kernel_rfl) rfl #[.string (⟨#[45, 48]⟩ : ByteArray)] rfl (by (try simp only [List.map_toArray, List.map_cons, List.map_nil]); first | done | rfl | (simp only [List.length_drop, List.length_take]; rfl)) ?_; (with_reducible refine (ratio_Parse.calls k (⟨#[45, 48]⟩ : ByteArray) t177 true _ A1.out).mono ?_); rintro e w40 ⟨rfl, hb⟩; refine ⟨_, rfl, ?_⟩; have n0_ := Aside0.mk (below_step (by repeat (first | (with_reducible first | exact HB.out | apply below_alloc | apply pw_below_drewN | apply below_drew1) | exact HB.out)) hb); clear HB; have HB := n0_; clear n0_; (try clear hb); (try clear hb2); (try clear hk); (try clear hi)) | ((with_reducible refine gate_callee (f := 35) rfl ?_); refine goesL_ (some 12) rfl rfl Try.func35 (by kernel_rfl) rfl #[.float .f64 4602678819172646912] rfl (by (try simp only [List.map_toArray, List.map_cons, List.map_nil]); first | done | rfl | (simp only [List.length_drop, List.length_take]; rfl)) ?_; (with_reducible refine (ratio_Write.calls k 4602678819172646912 t179 true _ A2.out).mono ?_); rintro e w41 ⟨rfl, hb⟩; refine ⟨_, rfl, ?_⟩; have n0_ := Aside0.mk (below_step (by repeat (first | (with_reducible first | exact HB.out | apply below_alloc | apply pw_below_drewN | apply below_drew1) | exact HB.out)) hb); clear HB; have HB := n0_; clear n0_; (try clear hb); (try clear hb2); (try clear hk); (try clear hi)) | ((with_reducible refine gate_callee (f := 34) rfl ?_); refine goesL_ (some 16) rfl rfl Try.func34 (by kernel_rfl) rfl #[.string (⟨#[48, 49]⟩ : ByteArray)] rfl (by (try simp only [List.map_toArray, List.map_cons, List.map_nil]); first | done | rfl | (simp only [List.length_drop, List.length_take]; rfl)) ?_; (with_reducible refine (ratio_Parse.calls k (⟨#[48, 49]⟩ : ByteArray) t181 false _ A3.out).mono ?_); rintro e w42 ⟨rfl, hb⟩; refine ⟨_, rfl, ?_⟩; have n0_ := Aside0.mk (below_step (by repeat (first | (with_reducible first | exact HB.out | apply below_alloc | apply pw_below_drewN | apply below_drew1) | exact HB.out)) hb); clear HB; have HB := n0_; clear n0_; (try clear hb); (try clear hb2); (try clear hk); (try clear hi)) | ((with_reducible refine gate_callee (f := 21) rfl ?_); refine goesL_ (some 19) rfl rfl Try.func21 (by kernel_rfl) rfl #[.int .i64 0, .int .i64 0] rfl (by (try simp only [List.map_toArray, List.map_cons, List.map_nil]); first | done | rfl | (simp only [List.length_drop, List.length_take]; rfl)) ?_; (with_reducible refine (ratio_Of.calls 0 0 t183 _ A4.out).mono ?_); rintro e w' ⟨zt183, hsz_t1830, rfl, ⟨nd, rfl⟩⟩; have hsz_t183 := Aside0.mk hsz_t1830; clear hsz_t1830; refine ⟨_, rfl, ?_⟩) | ((with_reducible refine gate_callee (f := 23) rfl ?_); refine goesL_ (some 20) rfl rfl Try.func23 (by kernel_rfl) rfl #[.float .f64 zt183] rfl (by (try simp only [List.map_toArray, List.map_cons, List.map_nil]); first | done | rfl | (simp only [List.length_drop, List.length_take]; rfl)) ?_; (with_reducible refine (math_IsNaN.calls zt183 true _ (math_IsNaN.sim hsz_t183.out A5.out)).mono ?_); rintro e w' ⟨rfl, ⟨nd, rfl⟩⟩; refine ⟨_, rfl, ?_⟩) | (go_at_call 21; (with_reducible refine (ratio_Of.calls 0 0 t185 _ A7.out).mono ?_); rintro e w' ⟨zt185, hsz_t1850, rfl, ⟨nd, rfl⟩⟩; have hsz_t185 := Aside0.mk hsz_t1850; clear hsz_t1850) | (go_at_call 37; (with_reducible refine (ratio_Text.calls k zt185 t186 _ (ratio_Text.sim hsz_t185.out A8.out)).mono ?_); rintro e w43 ⟨rfl, hb⟩; have n0_ := Aside0.mk (below_step (by repeat (first | (with_reducible first | exact HB.out | apply below_alloc | apply pw_below_drewN | apply below_drew1) | exact HB.out)) hb); clear HB; have HB := n0_; clear n0_; (try clear hb); (try clear hb2); (try clear hk); (try clear hi)) | (go_at_call 32; (with_reducible refine (ratio_Near.calls k 10 4605380978949069210 t187 _ A10.out).mono ?_); rintro e w44 ⟨rfl, hb⟩; have n0_ := Aside0.mk (below_step (by repeat (first | (with_reducible first | exact HB.out | apply below_alloc | apply pw_below_drewN | apply below_drew1) | exact HB.out)) hb); clear HB; have HB := n0_; clear n0_; (try clear hb); (try clear hb2); (try clear hk); (try clear hi)) | (go_at_call 26; (with_reducible refine (math_Signbit.calls t177 true _ A14.out).mono ?_); rintro e w' ⟨rfl, ⟨nd, rfl⟩⟩) | (go_at_call 37; (with_reducible refine (ratio_Text.calls k t177 t189 _ A16.out).mono ?_); rintro e w45 ⟨rfl, hb⟩; have n0_ := Aside0.mk (below_step (by repeat (first | (with_reducible first | exact HB.out | apply below_alloc | apply pw_below_drewN | apply below_drew1) | exact HB.out)) hb); clear HB; have HB := n0_; clear n0_; (try clear hb); (try clear hb2); (try clear hk); (try clear hi)) | (go_at_call 28; (with_reducible refine (ratio_Order.calls t177 0 t190 _ A27.out).mono ?_); rintro e w' ⟨rfl, ⟨nd, rfl⟩⟩) | (go_at_call 30; (with_reducible refine (ratio_Same.calls t177 0 false _ A29.out).mono ?_); rintro e w' ⟨rfl, ⟨nd, rfl⟩⟩) | (go_at_call 33; (with_reducible refine (math_NaN.calls  t192 _ A37.out).mono ?_); rintro e w' ⟨rfl, ⟨nd, rfl⟩⟩) | (go_at_call 33; (with_reducible refine (math_NaN.calls  t193 _ A38.out).mono ?_); rintro e w' ⟨rfl, ⟨nd, rfl⟩⟩) | (go_at_call 30; (with_reducible refine (ratio_Same.calls t192 t192 t194 _ (math_NaN.two A37.out A38.out A39.out)).mono ?_); rintro e w' ⟨rfl, ⟨nd, rfl⟩⟩))
                               go_ret
                               exact ⟨by first | rfl | (simp [errW_none, errW_some] <;> rfl) | (simp [*, errW_none, errW_some] <;> rfl), by repeat (first | (with_reducible first | exact HB.out | apply below_alloc | apply pw_below_drewN | apply below_drew1) | exact HB.out)⟩)
                      · rw [if_neg c28] at H
                        have c28b0 : (t190 == (-1)) = false := beq_eq_false_iff_ne.mpr c28
                        have c28b1 : (t190 != (-1)) = true := bne_iff_ne.mpr c28
                        exact absurd ((Option.some.inj H).trans hr_) (by decide)
                  · replace c19 := Bool.eq_false_iff.mpr c19
                    subst c19
                    have H1 : (some false) = some r := by rw [if_neg (show ¬ (false = true) by decide)] at H; exact H
                    clear H
                    have H := H1
                    clear H1
                    exact absurd ((Option.some.inj H).trans hr_) (by decide)
                · rw [if_neg c18] at H
                  have c18b0 : (t179.toList == ([48, 46, 53] : List UInt8)) = false := beq_eq_false_iff_ne.mpr c18
                  have c18b1 : (t179.toList != ([48, 46, 53] : List UInt8)) = true := bne_iff_ne.mpr c18
                  exact absurd ((Option.some.inj H).trans hr_) (by decide)
              · rw [if_neg c17] at H
                have c17b0 : (t189.toList == ([45, 48, 46, 48, 48, 48] : List UInt8)) = false := beq_eq_false_iff_ne.mpr c17
                have c17b1 : (t189.toList != ([45, 48, 46, 48, 48, 48] : List UInt8)) = true := bne_iff_ne.mpr c17
                exact absurd ((Option.some.inj H).trans hr_) (by decide)
            · replace c15 := Bool.eq_false_iff.mpr c15
              subst c15
              have H1 : (some false) = some r := by rw [if_neg (show ¬ (false = true) by decide)] at H; exact H
              clear H
              have H := H1
              clear H1
              exact absurd ((Option.some.inj H).trans hr_) (by decide)
          · rw [if_neg c13] at H
            have c13b0 : (feq t177 0) = false := by simpa using c13
            clear c13
            exact absurd ((Option.some.inj H).trans hr_) (by decide)
        · replace c12 := Bool.eq_false_iff.mpr c12
          subst c12
          have H1 : (some false) = some r := by rw [if_neg (show ¬ (false = true) by decide)] at H; exact H
          clear H
          have H := H1
          clear H1
          exact absurd ((Option.some.inj H).trans hr_) (by decide)
      · rw [if_neg c11] at H
        have c11b0 : (t187 == 8) = false := beq_eq_false_iff_ne.mpr c11
        have c11b1 : (t187 != 8) = true := bne_iff_ne.mpr c11
        exact absurd ((Option.some.inj H).trans hr_) (by decide)
    · rw [if_neg c9] at H
      have c9b0 : (t186.toList == ([110, 97, 110] : List UInt8)) = false := beq_eq_false_iff_ne.mpr c9
      have c9b1 : (t186.toList != ([110, 97, 110] : List UInt8)) = true := bne_iff_ne.mpr c9
      exact absurd ((Option.some.inj H).trans hr_) (by decide)
  · replace c6 := Bool.eq_false_iff.mpr c6
    subst c6
    have H1 : (some false) = some r := by rw [if_neg (show ¬ (false = true) by decide)] at H; exact H
    clear H
    have H := H1
    clear H1
    exact absurd ((Option.some.inj H).trans hr_) (by decide)
def turncocklaw5_awake.f (k : Nat) : Option (Bool) := if turncocklaw5_awake.g k = some true then some true else none
theorem turncocklaw5_awake.mono : ∀ k, LeO (turncocklaw5_awake.f k ) (turncocklaw5_awake.f (k + 1) ) := by
  intro k r h
  unfold turncocklaw5_awake.f at h ⊢
  split at h
  · rename_i hg; rw [if_pos (turncocklaw5_awake.gmono k _ hg)]; exact h
  · cases h
theorem turncocklaw5_awake.calls (k : Nat) (r : Bool) (w : World) (h : turncocklaw5_awake.f k = some r) :
    Calls Try.prog 24 #[] w fun e w' => e = .returned (.bool r) ∧ Below w.heap.size w w' := by
  unfold turncocklaw5_awake.f at h
  split at h
  · rename_i hg; obtain rfl := Option.some.inj h; exact turncocklaw5_awake.gcalls k true w hg rfl
  · cases h

/-! ### turncocklaw5_of: function 27 (my own) -/
def turncocklaw5_of.f (a0 : Int) : Option (Nat) := some a0.toNat
set_option maxRecDepth 100000 in
theorem turncocklaw5_of.calls (a0 : Int) (r : Nat) (w : World) (h : turncocklaw5_of.f a0 = some r) :
    Calls Try.prog 27 #[.int .u64 a0] w fun e w' => e = .returned (.float .f64 r) ∧ Drawn0 w w' := by
  obtain rfl := Option.some.inj h
  clear h
  go_enter Try.func27, Try.ntmps27
  go_wp2
  go_ret
  exact ⟨by first | rfl | simp, by repeat (first | exact Drawn0.refl _ | apply Drawn0.step)⟩

/-! ### turncocklaw5_RatioText: function 12 -/
def turncocklaw5_RatioText.f (k : Nat) (a0 : Int) : Option (Bool) := (turncocklaw5_of.f a0).bind fun t195 => ((ratio_Text.f k t195).bind fun t196 => ((turncocklaw5_of.f a0).bind fun t197 => ((turncockref1_Shown.f k t197).bind fun t198 => (if t196.toList = t198.toList then ((turncocklaw5_awake.f k).bind fun t199 => (some t199)) else (some false)))))
theorem turncocklaw5_RatioText.mono : ∀ a0 k, LeO (turncocklaw5_RatioText.f k a0) (turncocklaw5_RatioText.f (k + 1) a0) := by
  intro a0 k
  unfold turncocklaw5_RatioText.f
  repeat' first
      | (with_reducible exact ratio_Text.mono _ _)
      | (with_reducible exact turncocklaw5_awake.mono _)
      | (with_reducible exact turncockref1_Shown.mono _ _)
      | (with_reducible exact LeO.refl _)
      | (with_reducible exact LeO.none _)
      | (with_reducible refine LeO.ite ?_ ?_)
      | (with_reducible refine LeO.bind ?_ (fun _ => ?_))
      | exact ratio_Text.mono _ _
      | exact turncocklaw5_awake.mono _
      | exact turncockref1_Shown.mono _ _
      | exact LeO.none _
      | refine LeO.ite ?_ ?_
      | refine LeO.bind ?_ (fun _ => ?_)
set_option maxHeartbeats 8000000 in
set_option maxRecDepth 100000 in
theorem turncocklaw5_RatioText.calls (k : Nat) (a0 : Int) (r : Bool) (w : World) (h : turncocklaw5_RatioText.f k a0 = some r) (hr_ : r = true) :
    Calls Try.prog 12 #[.int .u64 a0] w fun e w' => e = .returned (.bool r) ∧ Below w.heap.size w w' := by
  have HB := Aside0.mk (Below.refl w.heap.size w)
  have H : ((turncocklaw5_of.f a0).bind fun t195 => ((ratio_Text.f k t195).bind fun t196 => ((turncocklaw5_of.f a0).bind fun t197 => ((turncockref1_Shown.f k t197).bind fun t198 => (if t196.toList = t198.toList then ((turncocklaw5_awake.f k).bind fun t199 => (some t199)) else (some false)))))) = some r := h
  clear h
  replace H := Option.bind_eq_some_iff.mp H
  obtain ⟨t195, A20, H⟩ := H
  replace H : ((ratio_Text.f k t195).bind fun t196 => ((turncocklaw5_of.f a0).bind fun t197 => ((turncockref1_Shown.f k t197).bind fun t198 => (if t196.toList = t198.toList then ((turncocklaw5_awake.f k).bind fun t199 => (some t199)) else (some false))))) = some r := H
  have A2 := Aside0.mk A20
  clear A20
  replace H := Option.bind_eq_some_iff.mp H
  obtain ⟨t196, A30, H⟩ := H
  replace H : ((turncocklaw5_of.f a0).bind fun t197 => ((turncockref1_Shown.f k t197).bind fun t198 => (if t196.toList = t198.toList then ((turncocklaw5_awake.f k).bind fun t199 => (some t199)) else (some false)))) = some r := H
  have A3 := Aside0.mk A30
  clear A30
  replace H := Option.bind_eq_some_iff.mp H
  obtain ⟨t197, A40, H⟩ := H
  replace H : ((turncockref1_Shown.f k t197).bind fun t198 => (if t196.toList = t198.toList then ((turncocklaw5_awake.f k).bind fun t199 => (some t199)) else (some false))) = some r := H
  have A4 := Aside0.mk A40
  clear A40
  replace H := Option.bind_eq_some_iff.mp H
  obtain ⟨t198, A50, H⟩ := H
  replace H : (if t196.toList = t198.toList then ((turncocklaw5_awake.f k).bind fun t199 => (some t199)) else (some false)) = some r := H
  have A5 := Aside0.mk A50
  clear A50
  by_cases c6 : t196.toList = t198.toList
  · rw [if_pos c6] at H
    have c6b0 : (t196.toList == t198.toList) = true := beq_iff_eq.mpr c6
    have c6b1 : (t196.toList != t198.toList) = false := bne_eq_false_iff_eq.mpr c6
    clear c6
    replace H := Option.bind_eq_some_iff.mp H
    obtain ⟨t199, A70, H⟩ := H
    replace H : (some t199) = some r := H
    have A7 := Aside0.mk A70
    clear A70
    first
      | exact absurd ((Option.some.inj H).trans hr_) (by decide)
      | (obtain rfl := Option.some.inj H
         clear hr_
         go_enter Try.func12, Try.ntmps12
         go_wp2_with (first | ((with_reducible refine gate_callee (f := 27) rfl ?_); refine goesL_ (some 4) rfl rfl Try.func27 (by kernel_rfl) rfl #[.int .u64 a0] rfl (by (try simp only [List.map_toArray, List.map_cons, List.map_nil]); first | done | rfl | (simp only [List.length_drop, List.length_take]; rfl)) ?_; (with_reducible refine (turncocklaw5_of.calls a0 t195 _ A2.out).mono ?_); rintro e w' ⟨rfl, ⟨nd, rfl⟩⟩; refine ⟨_, rfl, ?_⟩) | ((with_reducible refine gate_callee (f := 37) rfl ?_); refine goesL_ (some 5) rfl rfl Try.func37 (by kernel_rfl) rfl #[.float .f64 t195] rfl (by (try simp only [List.map_toArray, List.map_cons, List.map_nil]); first | done | rfl | (simp only [List.length_drop, List.length_take]; rfl)) ?_; (with_reducible refine (ratio_Text.calls k t195 t196 _ A3.out).mono ?_); rintro e w8 ⟨rfl, hb⟩; refine ⟨_, rfl, ?_⟩; have n0_ := Aside0.mk (below_step (by repeat (first | (with_reducible first | exact HB.out | apply below_alloc | apply pw_below_drewN | apply below_drew1) | exact HB.out)) hb); clear HB; have HB := n0_; clear n0_; (try clear hb); (try clear hb2); (try clear hk); (try clear hi)) | ((with_reducible refine gate_callee (f := 27) rfl ?_); refine goesL_ (some 7) rfl rfl Try.func27 (by kernel_rfl) rfl #[.int .u64 a0] rfl (by (try simp only [List.map_toArray, List.map_cons, List.map_nil]); first | done | rfl | (simp only [List.length_drop, List.length_take]; rfl)) ?_; (with_reducible refine (turncocklaw5_of.calls a0 t197 _ A4.out).mono ?_); rintro e w' ⟨rfl, ⟨nd, rfl⟩⟩; refine ⟨_, rfl, ?_⟩) | ((with_reducible refine gate_callee (f := 19) rfl ?_); refine goesL_ (some 8) rfl rfl Try.func19 (by kernel_rfl) rfl #[.float .f64 t197] rfl (by (try simp only [List.map_toArray, List.map_cons, List.map_nil]); first | done | rfl | (simp only [List.length_drop, List.length_take]; rfl)) ?_; (with_reducible refine (turncockref1_Shown.calls k t197 t198 _ A5.out).mono ?_); rintro e w9 ⟨rfl, hb⟩; refine ⟨_, rfl, ?_⟩; have n0_ := Aside0.mk (below_step (by repeat (first | (with_reducible first | exact HB.out | apply below_alloc | apply pw_below_drewN | apply below_drew1) | exact HB.out)) hb); clear HB; have HB := n0_; clear n0_; (try clear hb); (try clear hb2); (try clear hk); (try clear hi)) | (go_at_call 24; (with_reducible refine (turncocklaw5_awake.calls k  t199 _ A7.out).mono ?_); rintro e w10 ⟨rfl, hb⟩; have n0_ := Aside0.mk (below_step (by repeat (first | (with_reducible first | exact HB.out | apply below_alloc | apply pw_below_drewN | apply below_drew1) | exact HB.out)) hb); clear HB; have HB := n0_; clear n0_; (try clear hb); (try clear hb2); (try clear hk); (try clear hi)))
         go_ret
         exact ⟨by first | rfl | (simp [errW_none, errW_some] <;> rfl) | (simp [*, errW_none, errW_some] <;> rfl), by repeat (first | (with_reducible first | exact HB.out | apply below_alloc | apply pw_below_drewN | apply below_drew1) | exact HB.out)⟩)
  · rw [if_neg c6] at H
    have c6b0 : (t196.toList == t198.toList) = false := beq_eq_false_iff_ne.mpr c6
    have c6b1 : (t196.toList != t198.toList) = true := bne_iff_ne.mpr c6
    exact absurd ((Option.some.inj H).trans hr_) (by decide)

/-- THE ONE PURE STATEMENT of turncocklaw5_RatioText: yours. -/
def turncocklaw5_RatioText.Pure : Prop := ∀ (a0 : Int), (Lit.int .u64 a0).wf = true → ∃ k, turncocklaw5_RatioText.f k a0 = some true
theorem turncocklaw5_RatioText.walk (P : turncocklaw5_RatioText.Pure) (a0 : Int) (w : World) (w0 : (Lit.int .u64 a0).wf = true) :
    Calls Try.prog 12 #[.int .u64 a0] w fun e w' => e = .returned (.bool true) ∧ Below w.heap.size w w' := by
  obtain ⟨k, h⟩ := P a0 w0
  refine (turncocklaw5_RatioText.calls k a0 true w h rfl).mono ?_
  rintro e w' ⟨rfl, hd⟩
  exact ⟨rfl, hd⟩

end Go.Proofs.Ytoopmkinpandfaa.PRatioText
