-- WRITTEN BY THIS SESSION'S mprint.py upon the print: some functions are proved by hand
import Derived.Test.YtofebccpghkmgaaPRuleChecksx0
import Derived.Test.YtofebccpghkmgaaPRuleChecksx1
import Derived.Test.YtofebccpghkmgaaPRuleChecksx5
import Derived.Test.YtofebccpghkmgaaPRuleChecksx6
namespace Go.Proofs.Ytofebccpghkmgaa.PRuleChecks
open Go.RowKit Go.Proofs.YtofebccpghkmgaaW.PrintWords Go.Proofs.YtofebccpghkmgaaW.PrintLast Go.Proofs.YtofebccpghkmgaaW.PrintMore
attribute [local go_sem] max2_int min2_int max_two min_two max_three min_three max_four min_four   -- for this text's walks alone
set_option linter.unusedVariables false
set_option linter.unusedSimpArgs false

/-! ### turncocklaw16_awake: function 13 -/
theorem blk_facts6_x7 {w : World} {g : Nat} {t : TypeId} {a0 a1 a2 a3 a4 a5 : Value} (h : w.heap[g]? = some (.cells #[a0, a1, a2, a3, a4, a5] t (0, 0))) : w.cell? ⟨g, 0, none⟩ = some a0 ∧ w.cell? ⟨g, 1, none⟩ = some a1 ∧ w.cell? ⟨g, 2, none⟩ = some a2 ∧ w.cell? ⟨g, 3, none⟩ = some a3 ∧ w.cell? ⟨g, 4, none⟩ = some a4 ∧ w.cell? ⟨g, 5, none⟩ = some a5 ∧ w.frozen? ⟨g, 0, none⟩ = false ∧ w.frozen? ⟨g, 1, none⟩ = false ∧ w.frozen? ⟨g, 2, none⟩ = false ∧ w.frozen? ⟨g, 3, none⟩ = false ∧ w.frozen? ⟨g, 4, none⟩ = false ∧ w.frozen? ⟨g, 5, none⟩ = false := ⟨(blk_cell h 0).trans rfl, (blk_cell h 1).trans rfl, (blk_cell h 2).trans rfl, (blk_cell h 3).trans rfl, (blk_cell h 4).trans rfl, (blk_cell h 5).trans rfl, blk_frozen h 0, blk_frozen h 1, blk_frozen h 2, blk_frozen h 3, blk_frozen h 4, blk_frozen h 5⟩
def turncocklaw16_awake.g (k : Nat)  : Option (Bool) := (rule_Check.f k (⟨#[]⟩ : ByteArray) 2 10 4605380978949069210 false false).bind fun t201 => (if t201 = 0 then ((rule_Threshold.f k (⟨#[]⟩ : ByteArray) 2 10 4605380978949069210 false false).bind fun t202 => (if t202 = 8 then ((rule_Text.f k (⟨#[]⟩ : ByteArray) 2 10 4605380978949069210 false false).bind fun t203 => (if t203.toList = ([49, 48, 32, 112, 101, 114, 32, 109, 105, 110, 117, 116, 101, 32, 110, 101, 97, 114, 32, 48, 46, 56] : List UInt8) then ((rule_Check.f k (⟨#[97, 124, 98]⟩ : ByteArray) 0 0 0 true true).bind fun t204 => (if t204 = 0 then ((rule_Text.f k (⟨#[97, 124, 98]⟩ : ByteArray) 0 0 0 true true).bind fun t205 => (if t205.toList = ([117, 110, 108, 105, 109, 105, 116, 101, 100, 32, 115, 104, 97, 100, 111, 119, 32, 97, 37, 55, 67, 98] : List UInt8) then ((rule_Check.f k (⟨#[]⟩ : ByteArray) 0 0 0 false false).bind fun t206 => (if t206 = 1 then ((turncocklaw16_of.f (⟨#[]⟩ : ByteArray) 2 10 4605380978949069210 false false 9221120237041090561).bind fun bt207 => ((rule_Check.f k bt207.1 bt207.2.1 bt207.2.2.1 bt207.2.2.2.1 bt207.2.2.2.2.1 bt207.2.2.2.2.2).bind fun t213 => (if t213 = 1 then ((turncocklaw16_of.f (⟨#[]⟩ : ByteArray) 2 10 4605380978949069210 false false 9223372036854775808).bind fun bt214 => ((rule_Check.f k bt214.1 bt214.2.1 bt214.2.2.1 bt214.2.2.2.1 bt214.2.2.2.2.1 bt214.2.2.2.2.2).bind fun t220 => (if t220 = 1 then ((rule_Same.f (⟨#[]⟩ : ByteArray) 2 10 4605380978949069210 false false (⟨#[]⟩ : ByteArray) 2 10 4605380978949069210 false false).bind fun t221 => (if t221 = true then ((turncocklaw16_of.f (⟨#[]⟩ : ByteArray) 2 10 4605380978949069210 false false 0).bind fun bt222 => ((rule_Same.f (⟨#[]⟩ : ByteArray) 2 10 4605380978949069210 false false bt222.1 bt222.2.1 bt222.2.2.1 bt222.2.2.2.1 bt222.2.2.2.2.1 bt222.2.2.2.2.2).bind fun t228 => (if t228 = true then (some false) else ((rule_Threshold.f k (⟨#[97, 124, 98]⟩ : ByteArray) 0 0 0 true true).bind fun t229 => (some (t229 == 0)))))) else (some false))) else (some false)))) else (some false)))) else (some false))) else (some false))) else (some false))) else (some false))) else (some false))) else (some false))
theorem turncocklaw16_awake.gmono : ∀ k, LeO (turncocklaw16_awake.g k ) (turncocklaw16_awake.g (k + 1) ) := by
  intro  k
  unfold turncocklaw16_awake.g
  repeat' first
      | (with_reducible exact rule_Check.mono _ _ _ _ _ _ _)
      | (with_reducible exact rule_Text.mono _ _ _ _ _ _ _)
      | (with_reducible exact rule_Threshold.mono _ _ _ _ _ _ _)
      | (with_reducible exact LeO.refl _)
      | (with_reducible exact LeO.none _)
      | (with_reducible refine LeO.ite ?_ ?_)
      | (with_reducible refine LeO.bind ?_ (fun _ => ?_))
      | exact rule_Check.mono _ _ _ _ _ _ _
      | exact rule_Text.mono _ _ _ _ _ _ _
      | exact rule_Threshold.mono _ _ _ _ _ _ _
      | exact LeO.none _
      | refine LeO.ite ?_ ?_
      | refine LeO.bind ?_ (fun _ => ?_)
def turncocklaw16_awake.T3 : Bool × List (List Nat × List Nat) := (true, [([], []), ([0], [0]), ([1], [1]), ([2, 1], [2]), ([3], [3]), ([4, 3, 3], [3, 4]), ([5, 3], [3, 5]), ([3, 6], [3, 6]), ([7, 5], [7]), ([8], [8]), ([9, 8, 8], [8, 9]), ([10, 8], [8, 10]), ([8, 11], [8, 11]), ([12, 10], [12]), ([13], [13]), ([14, 13, 13], [13, 14]), ([15, 13], [13, 15]), ([13, 16], [13, 16]), ([17, 15], [17]), ([18], [18]), ([19, 18, 18], [18, 19]), ([20, 18], [18, 20]), ([18, 21], [18, 21]), ([22, 20], [22]), ([23], [23]), ([24, 23, 23], [23, 24]), ([25, 23], [23, 25]), ([23, 26], [23, 26]), ([27, 25], [27]), ([28], [28]), ([29, 28, 28], [28, 29]), ([30, 30, 28], [28, 30]), ([31, 28], [28, 31]), ([28, 32], [28, 32]), ([33, 31], [33]), ([34], [34]), ([35, 34, 34], [34, 35]), ([36, 36, 34], [34, 36]), ([37, 34], [34, 37]), ([34, 38], [34, 38]), ([39, 37], [39]), ([40], [40]), ([40], [40]), ([41, 42, 40, 40], [40, 41, 42]), ([40, 43], [40, 43]), ([44, 43], [44]), ([45], [45]), ([45], [45]), ([47, 45, 45], [45, 47]), ([46, 48, 48, 45], [45, 46, 48]), ([49, 45], [45, 49]), ([45, 50], [45, 50]), ([51, 49], [51]), ([52], [52]), ([53, 52, 52], [52, 53]), ([54, 52], [52, 54]), ([52, 55], [52, 55]), ([56, 54, 0, 1, 2, 3, 4, 5, 6, 7, 8, 9, 10, 11, 12, 13, 14, 15, 16, 17, 18, 19, 20, 21, 22, 23, 24, 25, 26, 27, 28, 29, 30, 31, 32, 33, 34, 35, 36, 37, 38, 39, 40, 41, 42, 43, 44, 45, 46, 47, 48, 49, 50, 51, 52, 53, 54, 55, 56], [56])])
def turncocklaw16_awake.B3 : List Nat := [0, 1, 3, 7, 15, 31, 63, 127, 255, 511, 1023, 2047, 4095, 8191, 16383, 32767, 65535, 131071, 262143, 524287, 1048575, 2097151, 4194303, 8388607, 16777215, 33554431, 67108863, 134217727, 268435455, 536870911, 1073741823, 2147483647, 4294967295, 8589934591, 17179869183, 34359738367, 68719476735, 137438953471, 274877906943, 549755813887, 1099511627775, 2199023255551, 2199023255551, 8796093022207, 17592186044415, 35184372088831, 70368744177663, 70368744177663, 211106232532991, 562949953421311, 1125899906842623, 2251799813685247, 4503599627370495, 9007199254740991, 18014398509481983, 36028797018963967, 72057594037927935, 144115188075855871]
theorem turncocklaw16_awake.tab3 : rtab .any (opsOf Try.f13 3) = turncocklaw16_awake.T3 := by kernel_rfl
theorem turncocklaw16_awake.bits3 : waitsOk turncocklaw16_awake.T3.2 turncocklaw16_awake.B3 = true := by kernel_rfl
set_option maxHeartbeats 8000000 in
set_option maxRecDepth 100000 in
theorem turncocklaw16_awake.gcalls (k : Nat)  (r : Bool) (w : World) (h : turncocklaw16_awake.g k  = some r) (hr_ : r = true) :
    Calls Try.prog 13 #[] w fun e w' => e = .returned (.bool r) ∧ Below w.heap.size w w' := by
  have hu24 := Try.underlying24
  have HB := Aside0.mk (Below.refl w.heap.size w)
  have H : ((rule_Check.f k (⟨#[]⟩ : ByteArray) 2 10 4605380978949069210 false false).bind fun t201 => (if t201 = 0 then ((rule_Threshold.f k (⟨#[]⟩ : ByteArray) 2 10 4605380978949069210 false false).bind fun t202 => (if t202 = 8 then ((rule_Text.f k (⟨#[]⟩ : ByteArray) 2 10 4605380978949069210 false false).bind fun t203 => (if t203.toList = ([49, 48, 32, 112, 101, 114, 32, 109, 105, 110, 117, 116, 101, 32, 110, 101, 97, 114, 32, 48, 46, 56] : List UInt8) then ((rule_Check.f k (⟨#[97, 124, 98]⟩ : ByteArray) 0 0 0 true true).bind fun t204 => (if t204 = 0 then ((rule_Text.f k (⟨#[97, 124, 98]⟩ : ByteArray) 0 0 0 true true).bind fun t205 => (if t205.toList = ([117, 110, 108, 105, 109, 105, 116, 101, 100, 32, 115, 104, 97, 100, 111, 119, 32, 97, 37, 55, 67, 98] : List UInt8) then ((rule_Check.f k (⟨#[]⟩ : ByteArray) 0 0 0 false false).bind fun t206 => (if t206 = 1 then ((turncocklaw16_of.f (⟨#[]⟩ : ByteArray) 2 10 4605380978949069210 false false 9221120237041090561).bind fun bt207 => ((rule_Check.f k bt207.1 bt207.2.1 bt207.2.2.1 bt207.2.2.2.1 bt207.2.2.2.2.1 bt207.2.2.2.2.2).bind fun t213 => (if t213 = 1 then ((turncocklaw16_of.f (⟨#[]⟩ : ByteArray) 2 10 4605380978949069210 false false 9223372036854775808).bind fun bt214 => ((rule_Check.f k bt214.1 bt214.2.1 bt214.2.2.1 bt214.2.2.2.1 bt214.2.2.2.2.1 bt214.2.2.2.2.2).bind fun t220 => (if t220 = 1 then ((rule_Same.f (⟨#[]⟩ : ByteArray) 2 10 4605380978949069210 false false (⟨#[]⟩ : ByteArray) 2 10 4605380978949069210 false false).bind fun t221 => (if t221 = true then ((turncocklaw16_of.f (⟨#[]⟩ : ByteArray) 2 10 4605380978949069210 false false 0).bind fun bt222 => ((rule_Same.f (⟨#[]⟩ : ByteArray) 2 10 4605380978949069210 false false bt222.1 bt222.2.1 bt222.2.2.1 bt222.2.2.2.1 bt222.2.2.2.2.1 bt222.2.2.2.2.2).bind fun t228 => (if t228 = true then (some false) else ((rule_Threshold.f k (⟨#[97, 124, 98]⟩ : ByteArray) 0 0 0 true true).bind fun t229 => (some (t229 == 0)))))) else (some false))) else (some false)))) else (some false)))) else (some false))) else (some false))) else (some false))) else (some false))) else (some false))) else (some false))) = some r := h
  clear h
  replace H := Option.bind_eq_some_iff.mp H
  obtain ⟨t201, A10, H⟩ := H
  replace H : (if t201 = 0 then ((rule_Threshold.f k (⟨#[]⟩ : ByteArray) 2 10 4605380978949069210 false false).bind fun t202 => (if t202 = 8 then ((rule_Text.f k (⟨#[]⟩ : ByteArray) 2 10 4605380978949069210 false false).bind fun t203 => (if t203.toList = ([49, 48, 32, 112, 101, 114, 32, 109, 105, 110, 117, 116, 101, 32, 110, 101, 97, 114, 32, 48, 46, 56] : List UInt8) then ((rule_Check.f k (⟨#[97, 124, 98]⟩ : ByteArray) 0 0 0 true true).bind fun t204 => (if t204 = 0 then ((rule_Text.f k (⟨#[97, 124, 98]⟩ : ByteArray) 0 0 0 true true).bind fun t205 => (if t205.toList = ([117, 110, 108, 105, 109, 105, 116, 101, 100, 32, 115, 104, 97, 100, 111, 119, 32, 97, 37, 55, 67, 98] : List UInt8) then ((rule_Check.f k (⟨#[]⟩ : ByteArray) 0 0 0 false false).bind fun t206 => (if t206 = 1 then ((turncocklaw16_of.f (⟨#[]⟩ : ByteArray) 2 10 4605380978949069210 false false 9221120237041090561).bind fun bt207 => ((rule_Check.f k bt207.1 bt207.2.1 bt207.2.2.1 bt207.2.2.2.1 bt207.2.2.2.2.1 bt207.2.2.2.2.2).bind fun t213 => (if t213 = 1 then ((turncocklaw16_of.f (⟨#[]⟩ : ByteArray) 2 10 4605380978949069210 false false 9223372036854775808).bind fun bt214 => ((rule_Check.f k bt214.1 bt214.2.1 bt214.2.2.1 bt214.2.2.2.1 bt214.2.2.2.2.1 bt214.2.2.2.2.2).bind fun t220 => (if t220 = 1 then ((rule_Same.f (⟨#[]⟩ : ByteArray) 2 10 4605380978949069210 false false (⟨#[]⟩ : ByteArray) 2 10 4605380978949069210 false false).bind fun t221 => (if t221 = true then ((turncocklaw16_of.f (⟨#[]⟩ : ByteArray) 2 10 4605380978949069210 false false 0).bind fun bt222 => ((rule_Same.f (⟨#[]⟩ : ByteArray) 2 10 4605380978949069210 false false bt222.1 bt222.2.1 bt222.2.2.1 bt222.2.2.2.1 bt222.2.2.2.2.1 bt222.2.2.2.2.2).bind fun t228 => (if t228 = true then (some false) else ((rule_Threshold.f k (⟨#[97, 124, 98]⟩ : ByteArray) 0 0 0 true true).bind fun t229 => (some (t229 == 0)))))) else (some false))) else (some false)))) else (some false)))) else (some false))) else (some false))) else (some false))) else (some false))) else (some false))) else (some false)) = some r := H
  have A1 := Aside0.mk A10
  clear A10
  by_cases c2 : t201 = 0
  · rw [if_pos c2] at H
    have c2b0 : (t201 == 0) = true := beq_iff_eq.mpr c2
    have c2b1 : (t201 != 0) = false := bne_eq_false_iff_eq.mpr c2
    clear c2
    replace H := Option.bind_eq_some_iff.mp H
    obtain ⟨t202, A30, H⟩ := H
    replace H : (if t202 = 8 then ((rule_Text.f k (⟨#[]⟩ : ByteArray) 2 10 4605380978949069210 false false).bind fun t203 => (if t203.toList = ([49, 48, 32, 112, 101, 114, 32, 109, 105, 110, 117, 116, 101, 32, 110, 101, 97, 114, 32, 48, 46, 56] : List UInt8) then ((rule_Check.f k (⟨#[97, 124, 98]⟩ : ByteArray) 0 0 0 true true).bind fun t204 => (if t204 = 0 then ((rule_Text.f k (⟨#[97, 124, 98]⟩ : ByteArray) 0 0 0 true true).bind fun t205 => (if t205.toList = ([117, 110, 108, 105, 109, 105, 116, 101, 100, 32, 115, 104, 97, 100, 111, 119, 32, 97, 37, 55, 67, 98] : List UInt8) then ((rule_Check.f k (⟨#[]⟩ : ByteArray) 0 0 0 false false).bind fun t206 => (if t206 = 1 then ((turncocklaw16_of.f (⟨#[]⟩ : ByteArray) 2 10 4605380978949069210 false false 9221120237041090561).bind fun bt207 => ((rule_Check.f k bt207.1 bt207.2.1 bt207.2.2.1 bt207.2.2.2.1 bt207.2.2.2.2.1 bt207.2.2.2.2.2).bind fun t213 => (if t213 = 1 then ((turncocklaw16_of.f (⟨#[]⟩ : ByteArray) 2 10 4605380978949069210 false false 9223372036854775808).bind fun bt214 => ((rule_Check.f k bt214.1 bt214.2.1 bt214.2.2.1 bt214.2.2.2.1 bt214.2.2.2.2.1 bt214.2.2.2.2.2).bind fun t220 => (if t220 = 1 then ((rule_Same.f (⟨#[]⟩ : ByteArray) 2 10 4605380978949069210 false false (⟨#[]⟩ : ByteArray) 2 10 4605380978949069210 false false).bind fun t221 => (if t221 = true then ((turncocklaw16_of.f (⟨#[]⟩ : ByteArray) 2 10 4605380978949069210 false false 0).bind fun bt222 => ((rule_Same.f (⟨#[]⟩ : ByteArray) 2 10 4605380978949069210 false false bt222.1 bt222.2.1 bt222.2.2.1 bt222.2.2.2.1 bt222.2.2.2.2.1 bt222.2.2.2.2.2).bind fun t228 => (if t228 = true then (some false) else ((rule_Threshold.f k (⟨#[97, 124, 98]⟩ : ByteArray) 0 0 0 true true).bind fun t229 => (some (t229 == 0)))))) else (some false))) else (some false)))) else (some false)))) else (some false))) else (some false))) else (some false))) else (some false))) else (some false)) = some r := H
    have A3 := Aside0.mk A30
    clear A30
    by_cases c4 : t202 = 8
    · rw [if_pos c4] at H
      have c4b0 : (t202 == 8) = true := beq_iff_eq.mpr c4
      have c4b1 : (t202 != 8) = false := bne_eq_false_iff_eq.mpr c4
      clear c4
      replace H := Option.bind_eq_some_iff.mp H
      obtain ⟨t203, A50, H⟩ := H
      replace H : (if t203.toList = ([49, 48, 32, 112, 101, 114, 32, 109, 105, 110, 117, 116, 101, 32, 110, 101, 97, 114, 32, 48, 46, 56] : List UInt8) then ((rule_Check.f k (⟨#[97, 124, 98]⟩ : ByteArray) 0 0 0 true true).bind fun t204 => (if t204 = 0 then ((rule_Text.f k (⟨#[97, 124, 98]⟩ : ByteArray) 0 0 0 true true).bind fun t205 => (if t205.toList = ([117, 110, 108, 105, 109, 105, 116, 101, 100, 32, 115, 104, 97, 100, 111, 119, 32, 97, 37, 55, 67, 98] : List UInt8) then ((rule_Check.f k (⟨#[]⟩ : ByteArray) 0 0 0 false false).bind fun t206 => (if t206 = 1 then ((turncocklaw16_of.f (⟨#[]⟩ : ByteArray) 2 10 4605380978949069210 false false 9221120237041090561).bind fun bt207 => ((rule_Check.f k bt207.1 bt207.2.1 bt207.2.2.1 bt207.2.2.2.1 bt207.2.2.2.2.1 bt207.2.2.2.2.2).bind fun t213 => (if t213 = 1 then ((turncocklaw16_of.f (⟨#[]⟩ : ByteArray) 2 10 4605380978949069210 false false 9223372036854775808).bind fun bt214 => ((rule_Check.f k bt214.1 bt214.2.1 bt214.2.2.1 bt214.2.2.2.1 bt214.2.2.2.2.1 bt214.2.2.2.2.2).bind fun t220 => (if t220 = 1 then ((rule_Same.f (⟨#[]⟩ : ByteArray) 2 10 4605380978949069210 false false (⟨#[]⟩ : ByteArray) 2 10 4605380978949069210 false false).bind fun t221 => (if t221 = true then ((turncocklaw16_of.f (⟨#[]⟩ : ByteArray) 2 10 4605380978949069210 false false 0).bind fun bt222 => ((rule_Same.f (⟨#[]⟩ : ByteArray) 2 10 4605380978949069210 false false bt222.1 bt222.2.1 bt222.2.2.1 bt222.2.2.2.1 bt222.2.2.2.2.1 bt222.2.2.2.2.2).bind fun t228 => (if t228 = true then (some false) else ((rule_Threshold.f k (⟨#[97, 124, 98]⟩ : ByteArray) 0 0 0 true true).bind fun t229 => (some (t229 == 0)))))) else (some false))) else (some false)))) else (some false)))) else (some false))) else (some false))) else (some false))) else (some false)) = some r := H
      have A5 := Aside0.mk A50
      clear A50
      by_cases c6 : t203.toList = ([49, 48, 32, 112, 101, 114, 32, 109, 105, 110, 117, 116, 101, 32, 110, 101, 97, 114, 32, 48, 46, 56] : List UInt8)
      · rw [if_pos c6] at H
        have c6b0 : (t203.toList == ([49, 48, 32, 112, 101, 114, 32, 109, 105, 110, 117, 116, 101, 32, 110, 101, 97, 114, 32, 48, 46, 56] : List UInt8)) = true := beq_iff_eq.mpr c6
        have c6b1 : (t203.toList != ([49, 48, 32, 112, 101, 114, 32, 109, 105, 110, 117, 116, 101, 32, 110, 101, 97, 114, 32, 48, 46, 56] : List UInt8)) = false := bne_eq_false_iff_eq.mpr c6
        clear c6
        replace H := Option.bind_eq_some_iff.mp H
        obtain ⟨t204, A70, H⟩ := H
        replace H : (if t204 = 0 then ((rule_Text.f k (⟨#[97, 124, 98]⟩ : ByteArray) 0 0 0 true true).bind fun t205 => (if t205.toList = ([117, 110, 108, 105, 109, 105, 116, 101, 100, 32, 115, 104, 97, 100, 111, 119, 32, 97, 37, 55, 67, 98] : List UInt8) then ((rule_Check.f k (⟨#[]⟩ : ByteArray) 0 0 0 false false).bind fun t206 => (if t206 = 1 then ((turncocklaw16_of.f (⟨#[]⟩ : ByteArray) 2 10 4605380978949069210 false false 9221120237041090561).bind fun bt207 => ((rule_Check.f k bt207.1 bt207.2.1 bt207.2.2.1 bt207.2.2.2.1 bt207.2.2.2.2.1 bt207.2.2.2.2.2).bind fun t213 => (if t213 = 1 then ((turncocklaw16_of.f (⟨#[]⟩ : ByteArray) 2 10 4605380978949069210 false false 9223372036854775808).bind fun bt214 => ((rule_Check.f k bt214.1 bt214.2.1 bt214.2.2.1 bt214.2.2.2.1 bt214.2.2.2.2.1 bt214.2.2.2.2.2).bind fun t220 => (if t220 = 1 then ((rule_Same.f (⟨#[]⟩ : ByteArray) 2 10 4605380978949069210 false false (⟨#[]⟩ : ByteArray) 2 10 4605380978949069210 false false).bind fun t221 => (if t221 = true then ((turncocklaw16_of.f (⟨#[]⟩ : ByteArray) 2 10 4605380978949069210 false false 0).bind fun bt222 => ((rule_Same.f (⟨#[]⟩ : ByteArray) 2 10 4605380978949069210 false false bt222.1 bt222.2.1 bt222.2.2.1 bt222.2.2.2.1 bt222.2.2.2.2.1 bt222.2.2.2.2.2).bind fun t228 => (if t228 = true then (some false) else ((rule_Threshold.f k (⟨#[97, 124, 98]⟩ : ByteArray) 0 0 0 true true).bind fun t229 => (some (t229 == 0)))))) else (some false))) else (some false)))) else (some false)))) else (some false))) else (some false))) else (some false)) = some r := H
        have A7 := Aside0.mk A70
        clear A70
        by_cases c8 : t204 = 0
        · rw [if_pos c8] at H
          have c8b0 : (t204 == 0) = true := beq_iff_eq.mpr c8
          have c8b1 : (t204 != 0) = false := bne_eq_false_iff_eq.mpr c8
          clear c8
          replace H := Option.bind_eq_some_iff.mp H
          obtain ⟨t205, A90, H⟩ := H
          replace H : (if t205.toList = ([117, 110, 108, 105, 109, 105, 116, 101, 100, 32, 115, 104, 97, 100, 111, 119, 32, 97, 37, 55, 67, 98] : List UInt8) then ((rule_Check.f k (⟨#[]⟩ : ByteArray) 0 0 0 false false).bind fun t206 => (if t206 = 1 then ((turncocklaw16_of.f (⟨#[]⟩ : ByteArray) 2 10 4605380978949069210 false false 9221120237041090561).bind fun bt207 => ((rule_Check.f k bt207.1 bt207.2.1 bt207.2.2.1 bt207.2.2.2.1 bt207.2.2.2.2.1 bt207.2.2.2.2.2).bind fun t213 => (if t213 = 1 then ((turncocklaw16_of.f (⟨#[]⟩ : ByteArray) 2 10 4605380978949069210 false false 9223372036854775808).bind fun bt214 => ((rule_Check.f k bt214.1 bt214.2.1 bt214.2.2.1 bt214.2.2.2.1 bt214.2.2.2.2.1 bt214.2.2.2.2.2).bind fun t220 => (if t220 = 1 then ((rule_Same.f (⟨#[]⟩ : ByteArray) 2 10 4605380978949069210 false false (⟨#[]⟩ : ByteArray) 2 10 4605380978949069210 false false).bind fun t221 => (if t221 = true then ((turncocklaw16_of.f (⟨#[]⟩ : ByteArray) 2 10 4605380978949069210 false false 0).bind fun bt222 => ((rule_Same.f (⟨#[]⟩ : ByteArray) 2 10 4605380978949069210 false false bt222.1 bt222.2.1 bt222.2.2.1 bt222.2.2.2.1 bt222.2.2.2.2.1 bt222.2.2.2.2.2).bind fun t228 => (if t228 = true then (some false) else ((rule_Threshold.f k (⟨#[97, 124, 98]⟩ : ByteArray) 0 0 0 true true).bind fun t229 => (some (t229 == 0)))))) else (some false))) else (some false)))) else (some false)))) else (some false))) else (some false)) = some r := H
          have A9 := Aside0.mk A90
          clear A90
          by_cases c10 : t205.toList = ([117, 110, 108, 105, 109, 105, 116, 101, 100, 32, 115, 104, 97, 100, 111, 119, 32, 97, 37, 55, 67, 98] : List UInt8)
          · rw [if_pos c10] at H
            have c10b0 : (t205.toList == ([117, 110, 108, 105, 109, 105, 116, 101, 100, 32, 115, 104, 97, 100, 111, 119, 32, 97, 37, 55, 67, 98] : List UInt8)) = true := beq_iff_eq.mpr c10
            have c10b1 : (t205.toList != ([117, 110, 108, 105, 109, 105, 116, 101, 100, 32, 115, 104, 97, 100, 111, 119, 32, 97, 37, 55, 67, 98] : List UInt8)) = false := bne_eq_false_iff_eq.mpr c10
            clear c10
            replace H := Option.bind_eq_some_iff.mp H
            obtain ⟨t206, A110, H⟩ := H
            replace H : (if t206 = 1 then ((turncocklaw16_of.f (⟨#[]⟩ : ByteArray) 2 10 4605380978949069210 false false 9221120237041090561).bind fun bt207 => ((rule_Check.f k bt207.1 bt207.2.1 bt207.2.2.1 bt207.2.2.2.1 bt207.2.2.2.2.1 bt207.2.2.2.2.2).bind fun t213 => (if t213 = 1 then ((turncocklaw16_of.f (⟨#[]⟩ : ByteArray) 2 10 4605380978949069210 false false 9223372036854775808).bind fun bt214 => ((rule_Check.f k bt214.1 bt214.2.1 bt214.2.2.1 bt214.2.2.2.1 bt214.2.2.2.2.1 bt214.2.2.2.2.2).bind fun t220 => (if t220 = 1 then ((rule_Same.f (⟨#[]⟩ : ByteArray) 2 10 4605380978949069210 false false (⟨#[]⟩ : ByteArray) 2 10 4605380978949069210 false false).bind fun t221 => (if t221 = true then ((turncocklaw16_of.f (⟨#[]⟩ : ByteArray) 2 10 4605380978949069210 false false 0).bind fun bt222 => ((rule_Same.f (⟨#[]⟩ : ByteArray) 2 10 4605380978949069210 false false bt222.1 bt222.2.1 bt222.2.2.1 bt222.2.2.2.1 bt222.2.2.2.2.1 bt222.2.2.2.2.2).bind fun t228 => (if t228 = true then (some false) else ((rule_Threshold.f k (⟨#[97, 124, 98]⟩ : ByteArray) 0 0 0 true true).bind fun t229 => (some (t229 == 0)))))) else (some false))) else (some false)))) else (some false)))) else (some false)) = some r := H
            have A11 := Aside0.mk A110
            clear A110
            by_cases c12 : t206 = 1
            · rw [if_pos c12] at H
              have c12b0 : (t206 == 1) = true := beq_iff_eq.mpr c12
              have c12b1 : (t206 != 1) = false := bne_eq_false_iff_eq.mpr c12
              clear c12
              replace H := Option.bind_eq_some_iff.mp H
              obtain ⟨⟨t207, t208, t209, t210, t211, t212⟩, A130, H⟩ := H
              replace H : ((rule_Check.f k t207 t208 t209 t210 t211 t212).bind fun t213 => (if t213 = 1 then ((turncocklaw16_of.f (⟨#[]⟩ : ByteArray) 2 10 4605380978949069210 false false 9223372036854775808).bind fun bt214 => ((rule_Check.f k bt214.1 bt214.2.1 bt214.2.2.1 bt214.2.2.2.1 bt214.2.2.2.2.1 bt214.2.2.2.2.2).bind fun t220 => (if t220 = 1 then ((rule_Same.f (⟨#[]⟩ : ByteArray) 2 10 4605380978949069210 false false (⟨#[]⟩ : ByteArray) 2 10 4605380978949069210 false false).bind fun t221 => (if t221 = true then ((turncocklaw16_of.f (⟨#[]⟩ : ByteArray) 2 10 4605380978949069210 false false 0).bind fun bt222 => ((rule_Same.f (⟨#[]⟩ : ByteArray) 2 10 4605380978949069210 false false bt222.1 bt222.2.1 bt222.2.2.1 bt222.2.2.2.1 bt222.2.2.2.2.1 bt222.2.2.2.2.2).bind fun t228 => (if t228 = true then (some false) else ((rule_Threshold.f k (⟨#[97, 124, 98]⟩ : ByteArray) 0 0 0 true true).bind fun t229 => (some (t229 == 0)))))) else (some false))) else (some false)))) else (some false))) = some r := H
              have A13 := Aside0.mk A130
              clear A130
              replace H := Option.bind_eq_some_iff.mp H
              obtain ⟨t213, A140, H⟩ := H
              replace H : (if t213 = 1 then ((turncocklaw16_of.f (⟨#[]⟩ : ByteArray) 2 10 4605380978949069210 false false 9223372036854775808).bind fun bt214 => ((rule_Check.f k bt214.1 bt214.2.1 bt214.2.2.1 bt214.2.2.2.1 bt214.2.2.2.2.1 bt214.2.2.2.2.2).bind fun t220 => (if t220 = 1 then ((rule_Same.f (⟨#[]⟩ : ByteArray) 2 10 4605380978949069210 false false (⟨#[]⟩ : ByteArray) 2 10 4605380978949069210 false false).bind fun t221 => (if t221 = true then ((turncocklaw16_of.f (⟨#[]⟩ : ByteArray) 2 10 4605380978949069210 false false 0).bind fun bt222 => ((rule_Same.f (⟨#[]⟩ : ByteArray) 2 10 4605380978949069210 false false bt222.1 bt222.2.1 bt222.2.2.1 bt222.2.2.2.1 bt222.2.2.2.2.1 bt222.2.2.2.2.2).bind fun t228 => (if t228 = true then (some false) else ((rule_Threshold.f k (⟨#[97, 124, 98]⟩ : ByteArray) 0 0 0 true true).bind fun t229 => (some (t229 == 0)))))) else (some false))) else (some false)))) else (some false)) = some r := H
              have A14 := Aside0.mk A140
              clear A140
              by_cases c15 : t213 = 1
              · rw [if_pos c15] at H
                have c15b0 : (t213 == 1) = true := beq_iff_eq.mpr c15
                have c15b1 : (t213 != 1) = false := bne_eq_false_iff_eq.mpr c15
                clear c15
                replace H := Option.bind_eq_some_iff.mp H
                obtain ⟨⟨t214, t215, t216, t217, t218, t219⟩, A160, H⟩ := H
                replace H : ((rule_Check.f k t214 t215 t216 t217 t218 t219).bind fun t220 => (if t220 = 1 then ((rule_Same.f (⟨#[]⟩ : ByteArray) 2 10 4605380978949069210 false false (⟨#[]⟩ : ByteArray) 2 10 4605380978949069210 false false).bind fun t221 => (if t221 = true then ((turncocklaw16_of.f (⟨#[]⟩ : ByteArray) 2 10 4605380978949069210 false false 0).bind fun bt222 => ((rule_Same.f (⟨#[]⟩ : ByteArray) 2 10 4605380978949069210 false false bt222.1 bt222.2.1 bt222.2.2.1 bt222.2.2.2.1 bt222.2.2.2.2.1 bt222.2.2.2.2.2).bind fun t228 => (if t228 = true then (some false) else ((rule_Threshold.f k (⟨#[97, 124, 98]⟩ : ByteArray) 0 0 0 true true).bind fun t229 => (some (t229 == 0)))))) else (some false))) else (some false))) = some r := H
                have A16 := Aside0.mk A160
                clear A160
                replace H := Option.bind_eq_some_iff.mp H
                obtain ⟨t220, A170, H⟩ := H
                replace H : (if t220 = 1 then ((rule_Same.f (⟨#[]⟩ : ByteArray) 2 10 4605380978949069210 false false (⟨#[]⟩ : ByteArray) 2 10 4605380978949069210 false false).bind fun t221 => (if t221 = true then ((turncocklaw16_of.f (⟨#[]⟩ : ByteArray) 2 10 4605380978949069210 false false 0).bind fun bt222 => ((rule_Same.f (⟨#[]⟩ : ByteArray) 2 10 4605380978949069210 false false bt222.1 bt222.2.1 bt222.2.2.1 bt222.2.2.2.1 bt222.2.2.2.2.1 bt222.2.2.2.2.2).bind fun t228 => (if t228 = true then (some false) else ((rule_Threshold.f k (⟨#[97, 124, 98]⟩ : ByteArray) 0 0 0 true true).bind fun t229 => (some (t229 == 0)))))) else (some false))) else (some false)) = some r := H
                have A17 := Aside0.mk A170
                clear A170
                by_cases c18 : t220 = 1
                · rw [if_pos c18] at H
                  have c18b0 : (t220 == 1) = true := beq_iff_eq.mpr c18
                  have c18b1 : (t220 != 1) = false := bne_eq_false_iff_eq.mpr c18
                  clear c18
                  replace H := Option.bind_eq_some_iff.mp H
                  obtain ⟨t221, A190, H⟩ := H
                  replace H : (if t221 = true then ((turncocklaw16_of.f (⟨#[]⟩ : ByteArray) 2 10 4605380978949069210 false false 0).bind fun bt222 => ((rule_Same.f (⟨#[]⟩ : ByteArray) 2 10 4605380978949069210 false false bt222.1 bt222.2.1 bt222.2.2.1 bt222.2.2.2.1 bt222.2.2.2.2.1 bt222.2.2.2.2.2).bind fun t228 => (if t228 = true then (some false) else ((rule_Threshold.f k (⟨#[97, 124, 98]⟩ : ByteArray) 0 0 0 true true).bind fun t229 => (some (t229 == 0)))))) else (some false)) = some r := H
                  have A19 := Aside0.mk A190
                  clear A190
                  by_cases c20 : t221 = true
                  · subst c20
                    have H1 : ((turncocklaw16_of.f (⟨#[]⟩ : ByteArray) 2 10 4605380978949069210 false false 0).bind fun bt222 => ((rule_Same.f (⟨#[]⟩ : ByteArray) 2 10 4605380978949069210 false false bt222.1 bt222.2.1 bt222.2.2.1 bt222.2.2.2.1 bt222.2.2.2.2.1 bt222.2.2.2.2.2).bind fun t228 => (if t228 = true then (some false) else ((rule_Threshold.f k (⟨#[97, 124, 98]⟩ : ByteArray) 0 0 0 true true).bind fun t229 => (some (t229 == 0)))))) = some r := by rw [if_pos rfl] at H; exact H
                    clear H
                    have H := H1
                    clear H1
                    replace H := Option.bind_eq_some_iff.mp H
                    obtain ⟨⟨t222, t223, t224, t225, t226, t227⟩, A210, H⟩ := H
                    replace H : ((rule_Same.f (⟨#[]⟩ : ByteArray) 2 10 4605380978949069210 false false t222 t223 t224 t225 t226 t227).bind fun t228 => (if t228 = true then (some false) else ((rule_Threshold.f k (⟨#[97, 124, 98]⟩ : ByteArray) 0 0 0 true true).bind fun t229 => (some (t229 == 0))))) = some r := H
                    have A21 := Aside0.mk A210
                    clear A210
                    replace H := Option.bind_eq_some_iff.mp H
                    obtain ⟨t228, A220, H⟩ := H
                    replace H : (if t228 = true then (some false) else ((rule_Threshold.f k (⟨#[97, 124, 98]⟩ : ByteArray) 0 0 0 true true).bind fun t229 => (some (t229 == 0)))) = some r := H
                    have A22 := Aside0.mk A220
                    clear A220
                    by_cases c23 : t228 = true
                    · subst c23
                      have H1 : (some false) = some r := by rw [if_pos rfl] at H; exact H
                      clear H
                      have H := H1
                      clear H1
                      exact absurd ((Option.some.inj H).trans hr_) (by decide)
                    · replace c23 := Bool.eq_false_iff.mpr c23
                      subst c23
                      have H1 : ((rule_Threshold.f k (⟨#[97, 124, 98]⟩ : ByteArray) 0 0 0 true true).bind fun t229 => (some (t229 == 0))) = some r := by rw [if_neg (show ¬ (false = true) by decide)] at H; exact H
                      clear H
                      have H := H1
                      clear H1
                      replace H := Option.bind_eq_some_iff.mp H
                      obtain ⟨t229, A440, H⟩ := H
                      replace H : (some (t229 == 0)) = some r := H
                      have A44 := Aside0.mk A440
                      clear A440
                      first
                        | exact absurd ((Option.some.inj H).trans hr_) (by decide)
                        | (obtain rfl := Option.some.inj H
                           clear hr_
                           go_enter Try.func13, Try.ntmps13
                           try go_wp2_with (first | ((with_reducible refine gate_dst (N := 1) rfl ?_); refine box_event ?hg (N := 1) ?hd (cs := #[.string (⟨#[]⟩ : ByteArray), .int .i64 0, .int .i64 0, .float .f64 0, .bool false, .bool false]) (t := 24) ?hr ?_; (case hd => rfl); (case hg => rfl); (case hr => first | (go_simp; done) | (go_simp; rfl)); intro gb199 hg w45 hbox hb; have n0_ := Aside0.mk (below_step (by repeat (first | (with_reducible first | exact HB.out | apply below_alloc | apply pw_below_drewN | apply below_drew1) | exact HB.out)) hb); have n1_ := Aside0.mk (hbox); have n2_ := Aside0.mk ((by rw [hg]; exact (below_size (by repeat (first | (with_reducible first | exact HB.out | apply below_alloc | apply pw_below_drewN | apply below_drew1) | exact HB.out))) : w.heap.size ≤ gb199)); have n3_ := Aside0.mk ((by rw [hg]; exact (below_size (by repeat (first | (with_reducible first | exact HB.out | apply below_alloc | apply pw_below_drewN | apply below_drew1) | exact HB.out))) : w.heap.size ≤ gb199)); clear HB; have HB := n0_; have BK199 := n1_; have GW199 := n2_; have GE199 := n3_; clear n0_ n1_ n2_ n3_; clear hb hbox hg; obtain ⟨hcz46_0, hcz46_1, hcz46_2, hcz46_3, hcz46_4, hcz46_5, hfz46_0, hfz46_1, hfz46_2, hfz46_3, hfz46_4, hfz46_5⟩ := blk_facts6_x7 BK199.out) | ((with_reducible refine gate_dst (N := 2) rfl ?_); refine box_event ?hg (N := 2) ?hd (cs := #[.string (⟨#[]⟩ : ByteArray), .int .i64 0, .int .i64 0, .float .f64 0, .bool false, .bool false]) (t := 24) ?hr ?_; (case hd => rfl); (case hg => rfl); (case hr => first | (go_simp; done) | (go_simp; rfl)); intro gb200 hg w47 hbox hb; have n0_ := Aside0.mk (blk_below (g := gb199) (o := .cells #[.string (⟨#[]⟩ : ByteArray), .int .i64 2, .int .i64 10, .float .f64 4605380978949069210, .bool false, .bool false] 24 (0, 0)) (by (with_reducible repeat (first | refine blk_drewN ?_ _ | refine blk_drew ?_ | refine blk_alloc ?_ _)); refine blk_put (cs := #[.string (⟨#[]⟩ : ByteArray), .int .i64 2, .int .i64 10, .float .f64 4605380978949069210, .bool false, .bool false]) ?_ 5 _ rfl; (with_reducible repeat (first | refine blk_drewN ?_ _ | refine blk_drew ?_ | refine blk_alloc ?_ _)); refine blk_put (cs := #[.string (⟨#[]⟩ : ByteArray), .int .i64 2, .int .i64 10, .float .f64 4605380978949069210, .bool false, .bool false]) ?_ 4 _ rfl; (with_reducible repeat (first | refine blk_drewN ?_ _ | refine blk_drew ?_ | refine blk_alloc ?_ _)); refine blk_put (cs := #[.string (⟨#[]⟩ : ByteArray), .int .i64 2, .int .i64 10, .float .f64 0, .bool false, .bool false]) ?_ 3 _ rfl; (with_reducible repeat (first | refine blk_drewN ?_ _ | refine blk_drew ?_ | refine blk_alloc ?_ _)); refine blk_put (cs := #[.string (⟨#[]⟩ : ByteArray), .int .i64 2, .int .i64 0, .float .f64 0, .bool false, .bool false]) ?_ 2 _ rfl; (with_reducible repeat (first | refine blk_drewN ?_ _ | refine blk_drew ?_ | refine blk_alloc ?_ _)); refine blk_put (cs := #[.string (⟨#[]⟩ : ByteArray), .int .i64 0, .int .i64 0, .float .f64 0, .bool false, .bool false]) ?_ 1 _ rfl; (with_reducible repeat (first | refine blk_drewN ?_ _ | refine blk_drew ?_ | refine blk_alloc ?_ _)); refine blk_put (cs := #[.string (⟨#[]⟩ : ByteArray), .int .i64 0, .int .i64 0, .float .f64 0, .bool false, .bool false]) ?_ 0 _ rfl; (with_reducible repeat (first | refine blk_drewN ?_ _ | refine blk_drew ?_ | refine blk_alloc ?_ _)); exact BK199.out) hb); have n1_ := Aside0.mk (below_step (by repeat (first | (with_reducible first | exact HB.out | apply below_alloc | apply pw_below_drewN | apply below_drew1 | refine below_set ?_ GE199.out) | exact HB.out)) hb); have n2_ := Aside0.mk (hbox); have n3_ := Aside0.mk ((by rw [hg]; exact (below_size (by repeat (first | (with_reducible first | exact HB.out | apply below_alloc | apply pw_below_drewN | apply below_drew1 | refine below_set ?_ GE199.out) | exact HB.out))) : w.heap.size ≤ gb200)); have n4_ := Aside0.mk ((by rw [hg]; exact (below_size (by repeat (first | (with_reducible first | exact HB.out | apply below_alloc | apply pw_below_drewN | apply below_drew1 | refine below_set ?_ GE199.out) | exact HB.out))) : w.heap.size ≤ gb200)); have n5_ := Aside0.mk ((by rw [hg]; exact Nat.ne_of_lt (blk_lt (g := gb199) (o := .cells #[.string (⟨#[]⟩ : ByteArray), .int .i64 2, .int .i64 10, .float .f64 4605380978949069210, .bool false, .bool false] 24 (0, 0)) (by (with_reducible repeat (first | refine blk_drewN ?_ _ | refine blk_drew ?_ | refine blk_alloc ?_ _)); refine blk_put (cs := #[.string (⟨#[]⟩ : ByteArray), .int .i64 2, .int .i64 10, .float .f64 4605380978949069210, .bool false, .bool false]) ?_ 5 _ rfl; (with_reducible repeat (first | refine blk_drewN ?_ _ | refine blk_drew ?_ | refine blk_alloc ?_ _)); refine blk_put (cs := #[.string (⟨#[]⟩ : ByteArray), .int .i64 2, .int .i64 10, .float .f64 4605380978949069210, .bool false, .bool false]) ?_ 4 _ rfl; (with_reducible repeat (first | refine blk_drewN ?_ _ | refine blk_drew ?_ | refine blk_alloc ?_ _)); refine blk_put (cs := #[.string (⟨#[]⟩ : ByteArray), .int .i64 2, .int .i64 10, .float .f64 0, .bool false, .bool false]) ?_ 3 _ rfl; (with_reducible repeat (first | refine blk_drewN ?_ _ | refine blk_drew ?_ | refine blk_alloc ?_ _)); refine blk_put (cs := #[.string (⟨#[]⟩ : ByteArray), .int .i64 2, .int .i64 0, .float .f64 0, .bool false, .bool false]) ?_ 2 _ rfl; (with_reducible repeat (first | refine blk_drewN ?_ _ | refine blk_drew ?_ | refine blk_alloc ?_ _)); refine blk_put (cs := #[.string (⟨#[]⟩ : ByteArray), .int .i64 0, .int .i64 0, .float .f64 0, .bool false, .bool false]) ?_ 1 _ rfl; (with_reducible repeat (first | refine blk_drewN ?_ _ | refine blk_drew ?_ | refine blk_alloc ?_ _)); refine blk_put (cs := #[.string (⟨#[]⟩ : ByteArray), .int .i64 0, .int .i64 0, .float .f64 0, .bool false, .bool false]) ?_ 0 _ rfl; (with_reducible repeat (first | refine blk_drewN ?_ _ | refine blk_drew ?_ | refine blk_alloc ?_ _)); exact BK199.out)) : gb199 ≠ gb200)); have n6_ := Aside0.mk ((by rw [hg]; exact Nat.ne_of_gt (blk_lt (g := gb199) (o := .cells #[.string (⟨#[]⟩ : ByteArray), .int .i64 2, .int .i64 10, .float .f64 4605380978949069210, .bool false, .bool false] 24 (0, 0)) (by (with_reducible repeat (first | refine blk_drewN ?_ _ | refine blk_drew ?_ | refine blk_alloc ?_ _)); refine blk_put (cs := #[.string (⟨#[]⟩ : ByteArray), .int .i64 2, .int .i64 10, .float .f64 4605380978949069210, .bool false, .bool false]) ?_ 5 _ rfl; (with_reducible repeat (first | refine blk_drewN ?_ _ | refine blk_drew ?_ | refine blk_alloc ?_ _)); refine blk_put (cs := #[.string (⟨#[]⟩ : ByteArray), .int .i64 2, .int .i64 10, .float .f64 4605380978949069210, .bool false, .bool false]) ?_ 4 _ rfl; (with_reducible repeat (first | refine blk_drewN ?_ _ | refine blk_drew ?_ | refine blk_alloc ?_ _)); refine blk_put (cs := #[.string (⟨#[]⟩ : ByteArray), .int .i64 2, .int .i64 10, .float .f64 0, .bool false, .bool false]) ?_ 3 _ rfl; (with_reducible repeat (first | refine blk_drewN ?_ _ | refine blk_drew ?_ | refine blk_alloc ?_ _)); refine blk_put (cs := #[.string (⟨#[]⟩ : ByteArray), .int .i64 2, .int .i64 0, .float .f64 0, .bool false, .bool false]) ?_ 2 _ rfl; (with_reducible repeat (first | refine blk_drewN ?_ _ | refine blk_drew ?_ | refine blk_alloc ?_ _)); refine blk_put (cs := #[.string (⟨#[]⟩ : ByteArray), .int .i64 0, .int .i64 0, .float .f64 0, .bool false, .bool false]) ?_ 1 _ rfl; (with_reducible repeat (first | refine blk_drewN ?_ _ | refine blk_drew ?_ | refine blk_alloc ?_ _)); refine blk_put (cs := #[.string (⟨#[]⟩ : ByteArray), .int .i64 0, .int .i64 0, .float .f64 0, .bool false, .bool false]) ?_ 0 _ rfl; (with_reducible repeat (first | refine blk_drewN ?_ _ | refine blk_drew ?_ | refine blk_alloc ?_ _)); exact BK199.out)) : gb200 ≠ gb199)); clear BK199; clear HB; have BK199 := n0_; have HB := n1_; have BK200 := n2_; have GW200 := n3_; have GE200 := n4_; have NB199_200 := n5_; have NB200_199 := n6_; clear n0_ n1_ n2_ n3_ n4_ n5_ n6_; clear hb hbox hg; have hnb48 := NB200_199.out; have hnc48 := NB199_200.out; obtain ⟨hcz49_0, hcz49_1, hcz49_2, hcz49_3, hcz49_4, hcz49_5, hfz49_0, hfz49_1, hfz49_2, hfz49_3, hfz49_4, hfz49_5⟩ := blk_facts6_x7 BK200.out))
                           have n0_ : Aside0 (((((((w47.setCell ⟨gb200, 0, none⟩ (.string (⟨#[97, 124, 98]⟩ : ByteArray))).setCell ⟨gb200, 1, none⟩ (.int .i64 0)).setCell ⟨gb200, 2, none⟩ (.int .i64 0)).setCell ⟨gb200, 3, none⟩ (.float .f64 0)).setCell ⟨gb200, 4, none⟩ (.bool true)).setCell ⟨gb200, 5, none⟩ (.bool true)).heap[gb199]? = some (.cells #[.string (⟨#[]⟩ : ByteArray), .int .i64 2, .int .i64 10, .float .f64 4605380978949069210, .bool false, .bool false] 24 (0, 0))) := ⟨by (with_reducible repeat (first | refine blk_drewN ?_ _ | refine blk_drew ?_ | refine blk_alloc ?_ _)); refine blk_far ?_ NB199_200.out _; (with_reducible repeat (first | refine blk_drewN ?_ _ | refine blk_drew ?_ | refine blk_alloc ?_ _)); refine blk_far ?_ NB199_200.out _; (with_reducible repeat (first | refine blk_drewN ?_ _ | refine blk_drew ?_ | refine blk_alloc ?_ _)); refine blk_far ?_ NB199_200.out _; (with_reducible repeat (first | refine blk_drewN ?_ _ | refine blk_drew ?_ | refine blk_alloc ?_ _)); refine blk_far ?_ NB199_200.out _; (with_reducible repeat (first | refine blk_drewN ?_ _ | refine blk_drew ?_ | refine blk_alloc ?_ _)); refine blk_far ?_ NB199_200.out _; (with_reducible repeat (first | refine blk_drewN ?_ _ | refine blk_drew ?_ | refine blk_alloc ?_ _)); refine blk_far ?_ NB199_200.out _; (with_reducible repeat (first | refine blk_drewN ?_ _ | refine blk_drew ?_ | refine blk_alloc ?_ _)); exact BK199.out⟩
                           have n1_ : Aside0 (((((((w47.setCell ⟨gb200, 0, none⟩ (.string (⟨#[97, 124, 98]⟩ : ByteArray))).setCell ⟨gb200, 1, none⟩ (.int .i64 0)).setCell ⟨gb200, 2, none⟩ (.int .i64 0)).setCell ⟨gb200, 3, none⟩ (.float .f64 0)).setCell ⟨gb200, 4, none⟩ (.bool true)).setCell ⟨gb200, 5, none⟩ (.bool true)).heap[gb200]? = some (.cells #[.string (⟨#[97, 124, 98]⟩ : ByteArray), .int .i64 0, .int .i64 0, .float .f64 0, .bool true, .bool true] 24 (0, 0))) := ⟨by (with_reducible repeat (first | refine blk_drewN ?_ _ | refine blk_drew ?_ | refine blk_alloc ?_ _)); refine blk_put (cs := #[.string (⟨#[97, 124, 98]⟩ : ByteArray), .int .i64 0, .int .i64 0, .float .f64 0, .bool true, .bool false]) ?_ 5 _ rfl; (with_reducible repeat (first | refine blk_drewN ?_ _ | refine blk_drew ?_ | refine blk_alloc ?_ _)); refine blk_put (cs := #[.string (⟨#[97, 124, 98]⟩ : ByteArray), .int .i64 0, .int .i64 0, .float .f64 0, .bool false, .bool false]) ?_ 4 _ rfl; (with_reducible repeat (first | refine blk_drewN ?_ _ | refine blk_drew ?_ | refine blk_alloc ?_ _)); refine blk_put (cs := #[.string (⟨#[97, 124, 98]⟩ : ByteArray), .int .i64 0, .int .i64 0, .float .f64 0, .bool false, .bool false]) ?_ 3 _ rfl; (with_reducible repeat (first | refine blk_drewN ?_ _ | refine blk_drew ?_ | refine blk_alloc ?_ _)); refine blk_put (cs := #[.string (⟨#[97, 124, 98]⟩ : ByteArray), .int .i64 0, .int .i64 0, .float .f64 0, .bool false, .bool false]) ?_ 2 _ rfl; (with_reducible repeat (first | refine blk_drewN ?_ _ | refine blk_drew ?_ | refine blk_alloc ?_ _)); refine blk_put (cs := #[.string (⟨#[97, 124, 98]⟩ : ByteArray), .int .i64 0, .int .i64 0, .float .f64 0, .bool false, .bool false]) ?_ 1 _ rfl; (with_reducible repeat (first | refine blk_drewN ?_ _ | refine blk_drew ?_ | refine blk_alloc ?_ _)); refine blk_put (cs := #[.string (⟨#[]⟩ : ByteArray), .int .i64 0, .int .i64 0, .float .f64 0, .bool false, .bool false]) ?_ 0 _ rfl; (with_reducible repeat (first | refine blk_drewN ?_ _ | refine blk_drew ?_ | refine blk_alloc ?_ _)); exact BK200.out⟩
                           have n2_ : Aside0 (Below w.heap.size w ((((((w47.setCell ⟨gb200, 0, none⟩ (.string (⟨#[97, 124, 98]⟩ : ByteArray))).setCell ⟨gb200, 1, none⟩ (.int .i64 0)).setCell ⟨gb200, 2, none⟩ (.int .i64 0)).setCell ⟨gb200, 3, none⟩ (.float .f64 0)).setCell ⟨gb200, 4, none⟩ (.bool true)).setCell ⟨gb200, 5, none⟩ (.bool true))) := ⟨by repeat (first | (with_reducible first | exact HB.out | apply below_alloc | apply pw_below_drewN | apply below_drew1 | refine below_set ?_ GE199.out | refine below_set ?_ GE200.out) | exact HB.out)⟩
                           (try clear BK199)
                           (try clear BK200)
                           (try clear HB)
                           generalize ((((((w47.setCell ⟨gb200, 0, none⟩ (.string (⟨#[97, 124, 98]⟩ : ByteArray))).setCell ⟨gb200, 1, none⟩ (.int .i64 0)).setCell ⟨gb200, 2, none⟩ (.int .i64 0)).setCell ⟨gb200, 3, none⟩ (.float .f64 0)).setCell ⟨gb200, 4, none⟩ (.bool true)).setCell ⟨gb200, 5, none⟩ (.bool true)) = w50 at n0_ n1_ n2_ ⊢
                           have BK199 := n0_
                           have BK200 := n1_
                           have HB := n2_
                           clear n0_ n1_ n2_
                           have n0_ := Aside0.mk (blk_drew BK199.out)
                           have n1_ := Aside0.mk (blk_drew BK200.out)
                           have n2_ := Aside0.mk (below_drew1 HB.out)
                           clear BK199
                           clear BK200
                           clear HB
                           have BK199 := n0_
                           have BK200 := n1_
                           have HB := n2_
                           clear n0_ n1_ n2_
                           refine start_ (n := 58) (S := fun w' => w'.cell? ⟨gb199, 0, none⟩ = some (.string (⟨#[]⟩ : ByteArray)) ∧ w'.cell? ⟨gb199, 1, none⟩ = some (.int .i64 2) ∧ w'.cell? ⟨gb199, 2, none⟩ = some (.int .i64 10) ∧ w'.cell? ⟨gb199, 3, none⟩ = some (.float .f64 4605380978949069210) ∧ w'.cell? ⟨gb199, 4, none⟩ = some (.bool false) ∧ w'.cell? ⟨gb199, 5, none⟩ = some (.bool false) ∧ w'.cell? ⟨gb200, 0, none⟩ = some (.string (⟨#[97, 124, 98]⟩ : ByteArray)) ∧ w'.cell? ⟨gb200, 1, none⟩ = some (.int .i64 0) ∧ w'.cell? ⟨gb200, 2, none⟩ = some (.int .i64 0) ∧ w'.cell? ⟨gb200, 3, none⟩ = some (.float .f64 0) ∧ w'.cell? ⟨gb200, 4, none⟩ = some (.bool true) ∧ w'.cell? ⟨gb200, 5, none⟩ = some (.bool true)) (ds := []) #[false, false, false, false, false, false, false, false, false, false, false, false, false, false, false, false, false, false, false, false, false, false, false, false, false, false, false, false, false, false, false, false, false, false, false, false, false, false, false, false, false, false, false, false, false, false, false, false, false, false, false, false, false, false, false, false, false, false] (by kernel_rfl) rfl rfl ⟨(blk_cell BK199.out 0).trans rfl, (blk_cell BK199.out 1).trans rfl, (blk_cell BK199.out 2).trans rfl, (blk_cell BK199.out 3).trans rfl, (blk_cell BK199.out 4).trans rfl, (blk_cell BK199.out 5).trans rfl, (blk_cell BK200.out 0).trans rfl, (blk_cell BK200.out 1).trans rfl, (blk_cell BK200.out 2).trans rfl, (blk_cell BK200.out 3).trans rfl, (blk_cell BK200.out 4).trans rfl, (blk_cell BK200.out 5).trans rfl⟩ (fun hHeld => ?_); refine with_tabW turncocklaw16_awake.tab3 turncocklaw16_awake.bits3 (fun HT_ HW_ => ?_)
                           generalize w50.drew = w51 at BK199 BK200 HB hHeld ⊢
                           refine take_ (i := 0) (N := some 5) (v := ?_) (a' := ?_) #[true, false, false, false, false, false, false, false, false, false, false, false, false, false, false, false, false, false, false, false, false, false, false, false, false, false, false, false, false, false, false, false, false, false, false, false, false, false, false, false, false, false, false, false, false, false, false, false, false, false, false, false, false, false, false, false, false, false] rfl rfl (take_ofW HT_.out HW_.out (by kernel_rfl)) (fun _ _ _ h => h) (Or.inl ⟨by rfl, ?_⟩) hHeld ?_ ?_
                           rotate_left
                           · rintro w' ⟨s0, s1, s2, s3, s4, s5, s6, s7, s8, s9, s10, s11⟩
                             go_simp
                             (first | with_reducible rfl | (rw [if_neg (by first | omega | (simp only [ByteArray.size_append] at *; omega) | (have hl_ : ∀ l_ : List UInt8, (⟨l_.toArray⟩ : ByteArray).size = l_.length := (fun l_ => by show l_.toArray.size = _; simp); simp only [ByteArray.size_append, hl_, List.length_cons, List.length_nil] at *; omega))]))
                           rotate_left
                           · simp only [Act.put, List.setIfInBounds_toArray, List.set_cons_zero, List.set_cons_succ, i64_w, i32_w]
                             rfl
                           refine one_ (i := 1) (N := some 6) #[true, true, false, false, false, false, false, false, false, false, false, false, false, false, false, false, false, false, false, false, false, false, false, false, false, false, false, false, false, false, false, false, false, false, false, false, false, false, false, false, false, false, false, false, false, false, false, false, false, false, false, false, false, false, false, false, false, false] rfl rfl (one_of HT_.out (by kernel_rfl)) (by decide) (fun K hK => ?_)
                           refine goes_ Try.func14 (by kernel_rfl) rfl #[.agg #[.string (⟨#[]⟩ : ByteArray), .int .i64 2, .int .i64 10, .float .f64 4605380978949069210, .bool false, .bool false]] (by rfl) rfl rfl (by (try simp only [List.map_toArray, List.map_cons, List.map_nil]); first | done | rfl | (simp only [List.length_drop, List.length_take]; rfl)) ?_
                           with_reducible refine (rule_Check.calls k (⟨#[]⟩ : ByteArray) 2 10 4605380978949069210 false false t201 _ A1.out).mono ?_
                           rintro e w52 ⟨rfl, hb⟩
                           refine ⟨_, rfl, ?_⟩
                           have n0_ := Aside0.mk (blk_below (g := gb199) (o := .cells #[.string (⟨#[]⟩ : ByteArray), .int .i64 2, .int .i64 10, .float .f64 4605380978949069210, .bool false, .bool false] 24 (0, 0)) (by (with_reducible repeat (first | refine blk_drewN ?_ _ | refine blk_drew ?_ | refine blk_alloc ?_ _)); exact BK199.out) hb)
                           have n1_ := Aside0.mk (blk_below (g := gb200) (o := .cells #[.string (⟨#[97, 124, 98]⟩ : ByteArray), .int .i64 0, .int .i64 0, .float .f64 0, .bool true, .bool true] 24 (0, 0)) (by (with_reducible repeat (first | refine blk_drewN ?_ _ | refine blk_drew ?_ | refine blk_alloc ?_ _)); exact BK200.out) hb)
                           have n2_ := Aside0.mk (below_step (by repeat (first | (with_reducible first | exact HB.out | apply below_alloc | apply pw_below_drewN | apply below_drew1 | refine below_set ?_ GE199.out | refine below_set ?_ GE200.out) | exact HB.out)) hb)
                           clear BK199
                           clear BK200
                           clear HB
                           have BK199 := n0_
                           have BK200 := n1_
                           have HB := n2_
                           clear n0_ n1_ n2_
                           (try clear hb)
                           (try clear hb2)
                           (try clear hk)
                           (try clear hi)
                           refine hK.out _ _ ⟨(blk_cell BK199.out 0).trans rfl, (blk_cell BK199.out 1).trans rfl, (blk_cell BK199.out 2).trans rfl, (blk_cell BK199.out 3).trans rfl, (blk_cell BK199.out 4).trans rfl, (blk_cell BK199.out 5).trans rfl, (blk_cell BK200.out 0).trans rfl, (blk_cell BK200.out 1).trans rfl, (blk_cell BK200.out 2).trans rfl, (blk_cell BK200.out 3).trans rfl, (blk_cell BK200.out 4).trans rfl, (blk_cell BK200.out 5).trans rfl⟩ (fun hHeld => ?_)
                           clear hK K
                           refine norm_ (a' := ?_) ?_ ?_
                           rotate_left
                           · show Act.put _ (some 6) _ = _
                             simp only [Act.put, List.setIfInBounds_toArray, List.set_cons_zero, List.set_cons_succ, i64_w, i32_w]
                             rfl
                           refine pure_ (i := 2) (N := some 7) (v := ?_) (a' := ?_) #[true, true, true, false, false, false, false, false, false, false, false, false, false, false, false, false, false, false, false, false, false, false, false, false, false, false, false, false, false, false, false, false, false, false, false, false, false, false, false, false, false, false, false, false, false, false, false, false, false, false, false, false, false, false, false, false, false, false] rfl rfl (any_of HT_.out (by kernel_rfl)) (fun _ _ _ h => h) (Or.inl ⟨by rfl, ?_⟩) ?_ ?_
                           rotate_left
                           · intro w'
                             go_simp
                             (first | with_reducible rfl | (rw [if_neg (by first | omega | (simp only [ByteArray.size_append] at *; omega) | (have hl_ : ∀ l_ : List UInt8, (⟨l_.toArray⟩ : ByteArray).size = l_.length := (fun l_ => by show l_.toArray.size = _; simp); simp only [ByteArray.size_append, hl_, List.length_cons, List.length_nil] at *; omega))]))
                           rotate_left
                           · simp only [Act.put, List.setIfInBounds_toArray, List.set_cons_zero, List.set_cons_succ, i64_w, i32_w]
                             rfl
                           refine pure_ (i := 3) (N := some 8) (v := ?_) (a' := ?_) #[true, true, true, true, false, false, false, false, false, false, false, false, false, false, false, false, false, false, false, false, false, false, false, false, false, false, false, false, false, false, false, false, false, false, false, false, false, false, false, false, false, false, false, false, false, false, false, false, false, false, false, false, false, false, false, false, false, false] rfl rfl (any_of HT_.out (by kernel_rfl)) (fun _ _ _ h => h) (Or.inl ⟨by rfl, ?_⟩) ?_ ?_
                           rotate_left
                           · intro w'
                             go_simp
                             (first | with_reducible rfl | (rw [if_neg (by first | omega | (simp only [ByteArray.size_append] at *; omega) | (have hl_ : ∀ l_ : List UInt8, (⟨l_.toArray⟩ : ByteArray).size = l_.length := (fun l_ => by show l_.toArray.size = _; simp); simp only [ByteArray.size_append, hl_, List.length_cons, List.length_nil] at *; omega))]))
                           rotate_left
                           · simp only [Act.put, List.setIfInBounds_toArray, List.set_cons_zero, List.set_cons_succ, i64_w, i32_w]
                             rfl
                           refine take_ (i := 4) (N := some 9) (v := ?_) (a' := ?_) #[true, true, true, true, true, false, false, false, false, false, false, false, false, false, false, false, false, false, false, false, false, false, false, false, false, false, false, false, false, false, false, false, false, false, false, false, false, false, false, false, false, false, false, false, false, false, false, false, false, false, false, false, false, false, false, false, false, false] rfl rfl (take_ofW HT_.out HW_.out (by kernel_rfl)) (fun _ _ _ h => h) (Or.inl ⟨by rfl, ?_⟩) hHeld ?_ ?_
                           rotate_left
                           · rintro w' ⟨s0, s1, s2, s3, s4, s5, s6, s7, s8, s9, s10, s11⟩
                             go_simp
                             (first | with_reducible rfl | (rw [if_neg (by first | omega | (simp only [ByteArray.size_append] at *; omega) | (have hl_ : ∀ l_ : List UInt8, (⟨l_.toArray⟩ : ByteArray).size = l_.length := (fun l_ => by show l_.toArray.size = _; simp); simp only [ByteArray.size_append, hl_, List.length_cons, List.length_nil] at *; omega))]))
                           rotate_left
                           · simp only [Act.put, List.setIfInBounds_toArray, List.set_cons_zero, List.set_cons_succ, i64_w, i32_w]
                             rfl
                           refine one_ (i := 5) (N := some 10) #[true, true, true, true, true, true, false, false, false, false, false, false, false, false, false, false, false, false, false, false, false, false, false, false, false, false, false, false, false, false, false, false, false, false, false, false, false, false, false, false, false, false, false, false, false, false, false, false, false, false, false, false, false, false, false, false, false, false] rfl rfl (one_of HT_.out (by kernel_rfl)) (by decide) (fun K hK => ?_)
                           refine goes_ Try.func16 (by kernel_rfl) rfl #[.agg #[.string (⟨#[]⟩ : ByteArray), .int .i64 2, .int .i64 10, .float .f64 4605380978949069210, .bool false, .bool false]] (by rfl) rfl rfl (by (try simp only [List.map_toArray, List.map_cons, List.map_nil]); first | done | rfl | (simp only [List.length_drop, List.length_take]; rfl)) ?_
                           with_reducible refine (rule_Threshold.calls k (⟨#[]⟩ : ByteArray) 2 10 4605380978949069210 false false t202 _ A3.out).mono ?_
                           rintro e w53 ⟨rfl, hb⟩
                           refine ⟨_, rfl, ?_⟩
                           have n0_ := Aside0.mk (blk_below (g := gb199) (o := .cells #[.string (⟨#[]⟩ : ByteArray), .int .i64 2, .int .i64 10, .float .f64 4605380978949069210, .bool false, .bool false] 24 (0, 0)) (by (with_reducible repeat (first | refine blk_drewN ?_ _ | refine blk_drew ?_ | refine blk_alloc ?_ _)); exact BK199.out) hb)
                           have n1_ := Aside0.mk (blk_below (g := gb200) (o := .cells #[.string (⟨#[97, 124, 98]⟩ : ByteArray), .int .i64 0, .int .i64 0, .float .f64 0, .bool true, .bool true] 24 (0, 0)) (by (with_reducible repeat (first | refine blk_drewN ?_ _ | refine blk_drew ?_ | refine blk_alloc ?_ _)); exact BK200.out) hb)
                           have n2_ := Aside0.mk (below_step (by repeat (first | (with_reducible first | exact HB.out | apply below_alloc | apply pw_below_drewN | apply below_drew1 | refine below_set ?_ GE199.out | refine below_set ?_ GE200.out) | exact HB.out)) hb)
                           clear BK199
                           clear BK200
                           clear HB
                           have BK199 := n0_
                           have BK200 := n1_
                           have HB := n2_
                           clear n0_ n1_ n2_
                           (try clear hb)
                           (try clear hb2)
                           (try clear hk)
                           (try clear hi)
                           refine hK.out _ _ ⟨(blk_cell BK199.out 0).trans rfl, (blk_cell BK199.out 1).trans rfl, (blk_cell BK199.out 2).trans rfl, (blk_cell BK199.out 3).trans rfl, (blk_cell BK199.out 4).trans rfl, (blk_cell BK199.out 5).trans rfl, (blk_cell BK200.out 0).trans rfl, (blk_cell BK200.out 1).trans rfl, (blk_cell BK200.out 2).trans rfl, (blk_cell BK200.out 3).trans rfl, (blk_cell BK200.out 4).trans rfl, (blk_cell BK200.out 5).trans rfl⟩ (fun hHeld => ?_)
                           clear hK K
                           refine norm_ (a' := ?_) ?_ ?_
                           rotate_left
                           · show Act.put _ (some 10) _ = _
                             simp only [Act.put, List.setIfInBounds_toArray, List.set_cons_zero, List.set_cons_succ, i64_w, i32_w]
                             rfl
                           refine pure_ (i := 6) (N := some 11) (v := ?_) (a' := ?_) #[true, true, true, true, true, true, true, false, false, false, false, false, false, false, false, false, false, false, false, false, false, false, false, false, false, false, false, false, false, false, false, false, false, false, false, false, false, false, false, false, false, false, false, false, false, false, false, false, false, false, false, false, false, false, false, false, false, false] rfl rfl (any_of HT_.out (by kernel_rfl)) (fun _ _ _ h => h) (Or.inl ⟨by rfl, ?_⟩) ?_ ?_
                           rotate_left
                           · intro w'
                             go_simp
                             (first | with_reducible rfl | (rw [if_neg (by first | omega | (simp only [ByteArray.size_append] at *; omega) | (have hl_ : ∀ l_ : List UInt8, (⟨l_.toArray⟩ : ByteArray).size = l_.length := (fun l_ => by show l_.toArray.size = _; simp); simp only [ByteArray.size_append, hl_, List.length_cons, List.length_nil] at *; omega))]))
                           rotate_left
                           · simp only [Act.put, List.setIfInBounds_toArray, List.set_cons_zero, List.set_cons_succ, i64_w, i32_w]
                             rfl
                           refine pure_ (i := 7) (N := some 12) (v := ?_) (a' := ?_) #[true, true, true, true, true, true, true, true, false, false, false, false, false, false, false, false, false, false, false, false, false, false, false, false, false, false, false, false, false, false, false, false, false, false, false, false, false, false, false, false, false, false, false, false, false, false, false, false, false, false, false, false, false, false, false, false, false, false] rfl rfl (any_of HT_.out (by kernel_rfl)) (fun _ _ _ h => h) (Or.inl ⟨by rfl, ?_⟩) ?_ ?_
                           rotate_left
                           · intro w'
                             go_simp
                             (first | with_reducible rfl | (rw [if_neg (by first | omega | (simp only [ByteArray.size_append] at *; omega) | (have hl_ : ∀ l_ : List UInt8, (⟨l_.toArray⟩ : ByteArray).size = l_.length := (fun l_ => by show l_.toArray.size = _; simp); simp only [ByteArray.size_append, hl_, List.length_cons, List.length_nil] at *; omega))]))
                           rotate_left
                           · simp only [Act.put, List.setIfInBounds_toArray, List.set_cons_zero, List.set_cons_succ, i64_w, i32_w]
                             rfl
                           refine pure_ (i := 8) (N := some 13) (v := ?_) (a' := ?_) #[true, true, true, true, true, true, true, true, true, false, false, false, false, false, false, false, false, false, false, false, false, false, false, false, false, false, false, false, false, false, false, false, false, false, false, false, false, false, false, false, false, false, false, false, false, false, false, false, false, false, false, false, false, false, false, false, false, false] rfl rfl (any_of HT_.out (by kernel_rfl)) (fun _ _ _ h => h) (Or.inl ⟨by rfl, ?_⟩) ?_ ?_
                           rotate_left
                           · intro w'
                             go_simp
                             (first | with_reducible rfl | (rw [if_neg (by first | omega | (simp only [ByteArray.size_append] at *; omega) | (have hl_ : ∀ l_ : List UInt8, (⟨l_.toArray⟩ : ByteArray).size = l_.length := (fun l_ => by show l_.toArray.size = _; simp); simp only [ByteArray.size_append, hl_, List.length_cons, List.length_nil] at *; omega))]))
                           rotate_left
                           · simp only [Act.put, List.setIfInBounds_toArray, List.set_cons_zero, List.set_cons_succ, i64_w, i32_w]
                             rfl
                           refine take_ (i := 9) (N := some 14) (v := ?_) (a' := ?_) #[true, true, true, true, true, true, true, true, true, true, false, false, false, false, false, false, false, false, false, false, false, false, false, false, false, false, false, false, false, false, false, false, false, false, false, false, false, false, false, false, false, false, false, false, false, false, false, false, false, false, false, false, false, false, false, false, false, false] rfl rfl (take_ofW HT_.out HW_.out (by kernel_rfl)) (fun _ _ _ h => h) (Or.inl ⟨by rfl, ?_⟩) hHeld ?_ ?_
                           rotate_left
                           · rintro w' ⟨s0, s1, s2, s3, s4, s5, s6, s7, s8, s9, s10, s11⟩
                             go_simp
                             (first | with_reducible rfl | (rw [if_neg (by first | omega | (simp only [ByteArray.size_append] at *; omega) | (have hl_ : ∀ l_ : List UInt8, (⟨l_.toArray⟩ : ByteArray).size = l_.length := (fun l_ => by show l_.toArray.size = _; simp); simp only [ByteArray.size_append, hl_, List.length_cons, List.length_nil] at *; omega))]))
                           rotate_left
                           · simp only [Act.put, List.setIfInBounds_toArray, List.set_cons_zero, List.set_cons_succ, i64_w, i32_w]
                             rfl
                           refine one_ (i := 10) (N := some 15) #[true, true, true, true, true, true, true, true, true, true, true, false, false, false, false, false, false, false, false, false, false, false, false, false, false, false, false, false, false, false, false, false, false, false, false, false, false, false, false, false, false, false, false, false, false, false, false, false, false, false, false, false, false, false, false, false, false, false] rfl rfl (one_of HT_.out (by kernel_rfl)) (by decide) (fun K hK => ?_)
                           refine goes_ Try.func18 (by kernel_rfl) rfl #[.agg #[.string (⟨#[]⟩ : ByteArray), .int .i64 2, .int .i64 10, .float .f64 4605380978949069210, .bool false, .bool false]] (by rfl) rfl rfl (by (try simp only [List.map_toArray, List.map_cons, List.map_nil]); first | done | rfl | (simp only [List.length_drop, List.length_take]; rfl)) ?_
                           with_reducible refine (rule_Text.calls k (⟨#[]⟩ : ByteArray) 2 10 4605380978949069210 false false t203 _ A5.out).mono ?_
                           rintro e w54 ⟨rfl, hb⟩
                           refine ⟨_, rfl, ?_⟩
                           have n0_ := Aside0.mk (blk_below (g := gb199) (o := .cells #[.string (⟨#[]⟩ : ByteArray), .int .i64 2, .int .i64 10, .float .f64 4605380978949069210, .bool false, .bool false] 24 (0, 0)) (by (with_reducible repeat (first | refine blk_drewN ?_ _ | refine blk_drew ?_ | refine blk_alloc ?_ _)); exact BK199.out) hb)
                           have n1_ := Aside0.mk (blk_below (g := gb200) (o := .cells #[.string (⟨#[97, 124, 98]⟩ : ByteArray), .int .i64 0, .int .i64 0, .float .f64 0, .bool true, .bool true] 24 (0, 0)) (by (with_reducible repeat (first | refine blk_drewN ?_ _ | refine blk_drew ?_ | refine blk_alloc ?_ _)); exact BK200.out) hb)
                           have n2_ := Aside0.mk (below_step (by repeat (first | (with_reducible first | exact HB.out | apply below_alloc | apply pw_below_drewN | apply below_drew1 | refine below_set ?_ GE199.out | refine below_set ?_ GE200.out) | exact HB.out)) hb)
                           clear BK199
                           clear BK200
                           clear HB
                           have BK199 := n0_
                           have BK200 := n1_
                           have HB := n2_
                           clear n0_ n1_ n2_
                           (try clear hb)
                           (try clear hb2)
                           (try clear hk)
                           (try clear hi)
                           refine hK.out _ _ ⟨(blk_cell BK199.out 0).trans rfl, (blk_cell BK199.out 1).trans rfl, (blk_cell BK199.out 2).trans rfl, (blk_cell BK199.out 3).trans rfl, (blk_cell BK199.out 4).trans rfl, (blk_cell BK199.out 5).trans rfl, (blk_cell BK200.out 0).trans rfl, (blk_cell BK200.out 1).trans rfl, (blk_cell BK200.out 2).trans rfl, (blk_cell BK200.out 3).trans rfl, (blk_cell BK200.out 4).trans rfl, (blk_cell BK200.out 5).trans rfl⟩ (fun hHeld => ?_)
                           clear hK K
                           refine norm_ (a' := ?_) ?_ ?_
                           rotate_left
                           · show Act.put _ (some 15) _ = _
                             simp only [Act.put, List.setIfInBounds_toArray, List.set_cons_zero, List.set_cons_succ, i64_w, i32_w]
                             rfl
                           refine pure_ (i := 11) (N := some 16) (v := ?_) (a' := ?_) #[true, true, true, true, true, true, true, true, true, true, true, true, false, false, false, false, false, false, false, false, false, false, false, false, false, false, false, false, false, false, false, false, false, false, false, false, false, false, false, false, false, false, false, false, false, false, false, false, false, false, false, false, false, false, false, false, false, false] rfl rfl (any_of HT_.out (by kernel_rfl)) (fun _ _ _ h => h) (Or.inl ⟨by rfl, ?_⟩) ?_ ?_
                           rotate_left
                           · intro w'
                             go_simp
                             (first | with_reducible rfl | (rw [if_neg (by first | omega | (simp only [ByteArray.size_append] at *; omega) | (have hl_ : ∀ l_ : List UInt8, (⟨l_.toArray⟩ : ByteArray).size = l_.length := (fun l_ => by show l_.toArray.size = _; simp); simp only [ByteArray.size_append, hl_, List.length_cons, List.length_nil] at *; omega))]))
                           rotate_left
                           · simp only [Act.put, List.setIfInBounds_toArray, List.set_cons_zero, List.set_cons_succ, i64_w, i32_w]
                             rfl
                           refine pure_ (i := 12) (N := some 17) (v := ?_) (a' := ?_) #[true, true, true, true, true, true, true, true, true, true, true, true, true, false, false, false, false, false, false, false, false, false, false, false, false, false, false, false, false, false, false, false, false, false, false, false, false, false, false, false, false, false, false, false, false, false, false, false, false, false, false, false, false, false, false, false, false, false] rfl rfl (any_of HT_.out (by kernel_rfl)) (fun _ _ _ h => h) (Or.inl ⟨by rfl, ?_⟩) ?_ ?_
                           rotate_left
                           · intro w'
                             go_simp
                             (first | with_reducible rfl | (rw [if_neg (by first | omega | (simp only [ByteArray.size_append] at *; omega) | (have hl_ : ∀ l_ : List UInt8, (⟨l_.toArray⟩ : ByteArray).size = l_.length := (fun l_ => by show l_.toArray.size = _; simp); simp only [ByteArray.size_append, hl_, List.length_cons, List.length_nil] at *; omega))]))
                           rotate_left
                           · simp only [Act.put, List.setIfInBounds_toArray, List.set_cons_zero, List.set_cons_succ, i64_w, i32_w]
                             rfl
                           refine pure_ (i := 13) (N := some 18) (v := ?_) (a' := ?_) #[true, true, true, true, true, true, true, true, true, true, true, true, true, true, false, false, false, false, false, false, false, false, false, false, false, false, false, false, false, false, false, false, false, false, false, false, false, false, false, false, false, false, false, false, false, false, false, false, false, false, false, false, false, false, false, false, false, false] rfl rfl (any_of HT_.out (by kernel_rfl)) (fun _ _ _ h => h) (Or.inl ⟨by rfl, ?_⟩) ?_ ?_
                           rotate_left
                           · intro w'
                             go_simp
                             (first | with_reducible rfl | (rw [if_neg (by first | omega | (simp only [ByteArray.size_append] at *; omega) | (have hl_ : ∀ l_ : List UInt8, (⟨l_.toArray⟩ : ByteArray).size = l_.length := (fun l_ => by show l_.toArray.size = _; simp); simp only [ByteArray.size_append, hl_, List.length_cons, List.length_nil] at *; omega))]))
                           rotate_left
                           · simp only [Act.put, List.setIfInBounds_toArray, List.set_cons_zero, List.set_cons_succ, i64_w, i32_w]
                             rfl
                           refine take_ (i := 14) (N := some 19) (v := ?_) (a' := ?_) #[true, true, true, true, true, true, true, true, true, true, true, true, true, true, true, false, false, false, false, false, false, false, false, false, false, false, false, false, false, false, false, false, false, false, false, false, false, false, false, false, false, false, false, false, false, false, false, false, false, false, false, false, false, false, false, false, false, false] rfl rfl (take_ofW HT_.out HW_.out (by kernel_rfl)) (fun _ _ _ h => h) (Or.inl ⟨by rfl, ?_⟩) hHeld ?_ ?_
                           rotate_left
                           · rintro w' ⟨s0, s1, s2, s3, s4, s5, s6, s7, s8, s9, s10, s11⟩
                             go_simp
                             (first | with_reducible rfl | (rw [if_neg (by first | omega | (simp only [ByteArray.size_append] at *; omega) | (have hl_ : ∀ l_ : List UInt8, (⟨l_.toArray⟩ : ByteArray).size = l_.length := (fun l_ => by show l_.toArray.size = _; simp); simp only [ByteArray.size_append, hl_, List.length_cons, List.length_nil] at *; omega))]))
                           rotate_left
                           · simp only [Act.put, List.setIfInBounds_toArray, List.set_cons_zero, List.set_cons_succ, i64_w, i32_w]
                             rfl
                           refine one_ (i := 15) (N := some 20) #[true, true, true, true, true, true, true, true, true, true, true, true, true, true, true, true, false, false, false, false, false, false, false, false, false, false, false, false, false, false, false, false, false, false, false, false, false, false, false, false, false, false, false, false, false, false, false, false, false, false, false, false, false, false, false, false, false, false] rfl rfl (one_of HT_.out (by kernel_rfl)) (by decide) (fun K hK => ?_)
                           refine goes_ Try.func14 (by kernel_rfl) rfl #[.agg #[.string (⟨#[97, 124, 98]⟩ : ByteArray), .int .i64 0, .int .i64 0, .float .f64 0, .bool true, .bool true]] (by rfl) rfl rfl (by (try simp only [List.map_toArray, List.map_cons, List.map_nil]); first | done | rfl | (simp only [List.length_drop, List.length_take]; rfl)) ?_
                           with_reducible refine (rule_Check.calls k (⟨#[97, 124, 98]⟩ : ByteArray) 0 0 0 true true t204 _ A7.out).mono ?_
                           rintro e w55 ⟨rfl, hb⟩
                           refine ⟨_, rfl, ?_⟩
                           have n0_ := Aside0.mk (blk_below (g := gb199) (o := .cells #[.string (⟨#[]⟩ : ByteArray), .int .i64 2, .int .i64 10, .float .f64 4605380978949069210, .bool false, .bool false] 24 (0, 0)) (by (with_reducible repeat (first | refine blk_drewN ?_ _ | refine blk_drew ?_ | refine blk_alloc ?_ _)); exact BK199.out) hb)
                           have n1_ := Aside0.mk (blk_below (g := gb200) (o := .cells #[.string (⟨#[97, 124, 98]⟩ : ByteArray), .int .i64 0, .int .i64 0, .float .f64 0, .bool true, .bool true] 24 (0, 0)) (by (with_reducible repeat (first | refine blk_drewN ?_ _ | refine blk_drew ?_ | refine blk_alloc ?_ _)); exact BK200.out) hb)
                           have n2_ := Aside0.mk (below_step (by repeat (first | (with_reducible first | exact HB.out | apply below_alloc | apply pw_below_drewN | apply below_drew1 | refine below_set ?_ GE199.out | refine below_set ?_ GE200.out) | exact HB.out)) hb)
                           clear BK199
                           clear BK200
                           clear HB
                           have BK199 := n0_
                           have BK200 := n1_
                           have HB := n2_
                           clear n0_ n1_ n2_
                           (try clear hb)
                           (try clear hb2)
                           (try clear hk)
                           (try clear hi)
                           refine hK.out _ _ ⟨(blk_cell BK199.out 0).trans rfl, (blk_cell BK199.out 1).trans rfl, (blk_cell BK199.out 2).trans rfl, (blk_cell BK199.out 3).trans rfl, (blk_cell BK199.out 4).trans rfl, (blk_cell BK199.out 5).trans rfl, (blk_cell BK200.out 0).trans rfl, (blk_cell BK200.out 1).trans rfl, (blk_cell BK200.out 2).trans rfl, (blk_cell BK200.out 3).trans rfl, (blk_cell BK200.out 4).trans rfl, (blk_cell BK200.out 5).trans rfl⟩ (fun hHeld => ?_)
                           clear hK K
                           refine norm_ (a' := ?_) ?_ ?_
                           rotate_left
                           · show Act.put _ (some 20) _ = _
                             simp only [Act.put, List.setIfInBounds_toArray, List.set_cons_zero, List.set_cons_succ, i64_w, i32_w]
                             rfl
                           refine pure_ (i := 16) (N := some 21) (v := ?_) (a' := ?_) #[true, true, true, true, true, true, true, true, true, true, true, true, true, true, true, true, true, false, false, false, false, false, false, false, false, false, false, false, false, false, false, false, false, false, false, false, false, false, false, false, false, false, false, false, false, false, false, false, false, false, false, false, false, false, false, false, false, false] rfl rfl (any_of HT_.out (by kernel_rfl)) (fun _ _ _ h => h) (Or.inl ⟨by rfl, ?_⟩) ?_ ?_
                           rotate_left
                           · intro w'
                             go_simp
                             (first | with_reducible rfl | (rw [if_neg (by first | omega | (simp only [ByteArray.size_append] at *; omega) | (have hl_ : ∀ l_ : List UInt8, (⟨l_.toArray⟩ : ByteArray).size = l_.length := (fun l_ => by show l_.toArray.size = _; simp); simp only [ByteArray.size_append, hl_, List.length_cons, List.length_nil] at *; omega))]))
                           rotate_left
                           · simp only [Act.put, List.setIfInBounds_toArray, List.set_cons_zero, List.set_cons_succ, i64_w, i32_w]
                             rfl
                           refine pure_ (i := 17) (N := some 22) (v := ?_) (a' := ?_) #[true, true, true, true, true, true, true, true, true, true, true, true, true, true, true, true, true, true, false, false, false, false, false, false, false, false, false, false, false, false, false, false, false, false, false, false, false, false, false, false, false, false, false, false, false, false, false, false, false, false, false, false, false, false, false, false, false, false] rfl rfl (any_of HT_.out (by kernel_rfl)) (fun _ _ _ h => h) (Or.inl ⟨by rfl, ?_⟩) ?_ ?_
                           rotate_left
                           · intro w'
                             go_simp
                             (first | with_reducible rfl | (rw [if_neg (by first | omega | (simp only [ByteArray.size_append] at *; omega) | (have hl_ : ∀ l_ : List UInt8, (⟨l_.toArray⟩ : ByteArray).size = l_.length := (fun l_ => by show l_.toArray.size = _; simp); simp only [ByteArray.size_append, hl_, List.length_cons, List.length_nil] at *; omega))]))
                           rotate_left
                           · simp only [Act.put, List.setIfInBounds_toArray, List.set_cons_zero, List.set_cons_succ, i64_w, i32_w]
                             rfl
                           refine pure_ (i := 18) (N := some 23) (v := ?_) (a' := ?_) #[true, true, true, true, true, true, true, true, true, true, true, true, true, true, true, true, true, true, true, false, false, false, false, false, false, false, false, false, false, false, false, false, false, false, false, false, false, false, false, false, false, false, false, false, false, false, false, false, false, false, false, false, false, false, false, false, false, false] rfl rfl (any_of HT_.out (by kernel_rfl)) (fun _ _ _ h => h) (Or.inl ⟨by rfl, ?_⟩) ?_ ?_
                           rotate_left
                           · intro w'
                             go_simp
                             (first | with_reducible rfl | (rw [if_neg (by first | omega | (simp only [ByteArray.size_append] at *; omega) | (have hl_ : ∀ l_ : List UInt8, (⟨l_.toArray⟩ : ByteArray).size = l_.length := (fun l_ => by show l_.toArray.size = _; simp); simp only [ByteArray.size_append, hl_, List.length_cons, List.length_nil] at *; omega))]))
                           rotate_left
                           · simp only [Act.put, List.setIfInBounds_toArray, List.set_cons_zero, List.set_cons_succ, i64_w, i32_w]
                             rfl
                           refine take_ (i := 19) (N := some 24) (v := ?_) (a' := ?_) #[true, true, true, true, true, true, true, true, true, true, true, true, true, true, true, true, true, true, true, true, false, false, false, false, false, false, false, false, false, false, false, false, false, false, false, false, false, false, false, false, false, false, false, false, false, false, false, false, false, false, false, false, false, false, false, false, false, false] rfl rfl (take_ofW HT_.out HW_.out (by kernel_rfl)) (fun _ _ _ h => h) (Or.inl ⟨by rfl, ?_⟩) hHeld ?_ ?_
                           rotate_left
                           · rintro w' ⟨s0, s1, s2, s3, s4, s5, s6, s7, s8, s9, s10, s11⟩
                             go_simp
                             (first | with_reducible rfl | (rw [if_neg (by first | omega | (simp only [ByteArray.size_append] at *; omega) | (have hl_ : ∀ l_ : List UInt8, (⟨l_.toArray⟩ : ByteArray).size = l_.length := (fun l_ => by show l_.toArray.size = _; simp); simp only [ByteArray.size_append, hl_, List.length_cons, List.length_nil] at *; omega))]))
                           rotate_left
                           · simp only [Act.put, List.setIfInBounds_toArray, List.set_cons_zero, List.set_cons_succ, i64_w, i32_w]
                             rfl
                           refine one_ (i := 20) (N := some 25) #[true, true, true, true, true, true, true, true, true, true, true, true, true, true, true, true, true, true, true, true, true, false, false, false, false, false, false, false, false, false, false, false, false, false, false, false, false, false, false, false, false, false, false, false, false, false, false, false, false, false, false, false, false, false, false, false, false, false] rfl rfl (one_of HT_.out (by kernel_rfl)) (by decide) (fun K hK => ?_)
                           refine goes_ Try.func18 (by kernel_rfl) rfl #[.agg #[.string (⟨#[97, 124, 98]⟩ : ByteArray), .int .i64 0, .int .i64 0, .float .f64 0, .bool true, .bool true]] (by rfl) rfl rfl (by (try simp only [List.map_toArray, List.map_cons, List.map_nil]); first | done | rfl | (simp only [List.length_drop, List.length_take]; rfl)) ?_
                           with_reducible refine (rule_Text.calls k (⟨#[97, 124, 98]⟩ : ByteArray) 0 0 0 true true t205 _ A9.out).mono ?_
                           rintro e w56 ⟨rfl, hb⟩
                           refine ⟨_, rfl, ?_⟩
                           have n0_ := Aside0.mk (blk_below (g := gb199) (o := .cells #[.string (⟨#[]⟩ : ByteArray), .int .i64 2, .int .i64 10, .float .f64 4605380978949069210, .bool false, .bool false] 24 (0, 0)) (by (with_reducible repeat (first | refine blk_drewN ?_ _ | refine blk_drew ?_ | refine blk_alloc ?_ _)); exact BK199.out) hb)
                           have n1_ := Aside0.mk (blk_below (g := gb200) (o := .cells #[.string (⟨#[97, 124, 98]⟩ : ByteArray), .int .i64 0, .int .i64 0, .float .f64 0, .bool true, .bool true] 24 (0, 0)) (by (with_reducible repeat (first | refine blk_drewN ?_ _ | refine blk_drew ?_ | refine blk_alloc ?_ _)); exact BK200.out) hb)
                           have n2_ := Aside0.mk (below_step (by repeat (first | (with_reducible first | exact HB.out | apply below_alloc | apply pw_below_drewN | apply below_drew1 | refine below_set ?_ GE199.out | refine below_set ?_ GE200.out) | exact HB.out)) hb)
                           clear BK199
                           clear BK200
                           clear HB
                           have BK199 := n0_
                           have BK200 := n1_
                           have HB := n2_
                           clear n0_ n1_ n2_
                           (try clear hb)
                           (try clear hb2)
                           (try clear hk)
                           (try clear hi)
                           refine hK.out _ _ ⟨(blk_cell BK199.out 0).trans rfl, (blk_cell BK199.out 1).trans rfl, (blk_cell BK199.out 2).trans rfl, (blk_cell BK199.out 3).trans rfl, (blk_cell BK199.out 4).trans rfl, (blk_cell BK199.out 5).trans rfl, (blk_cell BK200.out 0).trans rfl, (blk_cell BK200.out 1).trans rfl, (blk_cell BK200.out 2).trans rfl, (blk_cell BK200.out 3).trans rfl, (blk_cell BK200.out 4).trans rfl, (blk_cell BK200.out 5).trans rfl⟩ (fun hHeld => ?_)
                           clear hK K
                           refine norm_ (a' := ?_) ?_ ?_
                           rotate_left
                           · show Act.put _ (some 25) _ = _
                             simp only [Act.put, List.setIfInBounds_toArray, List.set_cons_zero, List.set_cons_succ, i64_w, i32_w]
                             rfl
                           refine pure_ (i := 21) (N := some 26) (v := ?_) (a' := ?_) #[true, true, true, true, true, true, true, true, true, true, true, true, true, true, true, true, true, true, true, true, true, true, false, false, false, false, false, false, false, false, false, false, false, false, false, false, false, false, false, false, false, false, false, false, false, false, false, false, false, false, false, false, false, false, false, false, false, false] rfl rfl (any_of HT_.out (by kernel_rfl)) (fun _ _ _ h => h) (Or.inl ⟨by rfl, ?_⟩) ?_ ?_
                           rotate_left
                           · intro w'
                             go_simp
                             (first | with_reducible rfl | (rw [if_neg (by first | omega | (simp only [ByteArray.size_append] at *; omega) | (have hl_ : ∀ l_ : List UInt8, (⟨l_.toArray⟩ : ByteArray).size = l_.length := (fun l_ => by show l_.toArray.size = _; simp); simp only [ByteArray.size_append, hl_, List.length_cons, List.length_nil] at *; omega))]))
                           rotate_left
                           · simp only [Act.put, List.setIfInBounds_toArray, List.set_cons_zero, List.set_cons_succ, i64_w, i32_w]
                             rfl
                           refine pure_ (i := 22) (N := some 27) (v := ?_) (a' := ?_) #[true, true, true, true, true, true, true, true, true, true, true, true, true, true, true, true, true, true, true, true, true, true, true, false, false, false, false, false, false, false, false, false, false, false, false, false, false, false, false, false, false, false, false, false, false, false, false, false, false, false, false, false, false, false, false, false, false, false] rfl rfl (any_of HT_.out (by kernel_rfl)) (fun _ _ _ h => h) (Or.inl ⟨by rfl, ?_⟩) ?_ ?_
                           rotate_left
                           · intro w'
                             go_simp
                             (first | with_reducible rfl | (rw [if_neg (by first | omega | (simp only [ByteArray.size_append] at *; omega) | (have hl_ : ∀ l_ : List UInt8, (⟨l_.toArray⟩ : ByteArray).size = l_.length := (fun l_ => by show l_.toArray.size = _; simp); simp only [ByteArray.size_append, hl_, List.length_cons, List.length_nil] at *; omega))]))
                           rotate_left
                           · simp only [Act.put, List.setIfInBounds_toArray, List.set_cons_zero, List.set_cons_succ, i64_w, i32_w]
                             rfl
                           refine pure_ (i := 23) (N := some 28) (v := ?_) (a' := ?_) #[true, true, true, true, true, true, true, true, true, true, true, true, true, true, true, true, true, true, true, true, true, true, true, true, false, false, false, false, false, false, false, false, false, false, false, false, false, false, false, false, false, false, false, false, false, false, false, false, false, false, false, false, false, false, false, false, false, false] rfl rfl (any_of HT_.out (by kernel_rfl)) (fun _ _ _ h => h) (Or.inl ⟨by rfl, ?_⟩) ?_ ?_
                           rotate_left
                           · intro w'
                             go_simp
                             (first | with_reducible rfl | (rw [if_neg (by first | omega | (simp only [ByteArray.size_append] at *; omega) | (have hl_ : ∀ l_ : List UInt8, (⟨l_.toArray⟩ : ByteArray).size = l_.length := (fun l_ => by show l_.toArray.size = _; simp); simp only [ByteArray.size_append, hl_, List.length_cons, List.length_nil] at *; omega))]))
                           rotate_left
                           · simp only [Act.put, List.setIfInBounds_toArray, List.set_cons_zero, List.set_cons_succ, i64_w, i32_w]
                             rfl
                           refine pure_ (i := 24) (N := some 29) (v := ?_) (a' := ?_) #[true, true, true, true, true, true, true, true, true, true, true, true, true, true, true, true, true, true, true, true, true, true, true, true, true, false, false, false, false, false, false, false, false, false, false, false, false, false, false, false, false, false, false, false, false, false, false, false, false, false, false, false, false, false, false, false, false, false] rfl rfl (any_of HT_.out (by kernel_rfl)) (fun _ _ _ h => h) (Or.inl ⟨by rfl, ?_⟩) ?_ ?_
                           rotate_left
                           · intro w'
                             go_simp
                             (first | with_reducible rfl | (rw [if_neg (by first | omega | (simp only [ByteArray.size_append] at *; omega) | (have hl_ : ∀ l_ : List UInt8, (⟨l_.toArray⟩ : ByteArray).size = l_.length := (fun l_ => by show l_.toArray.size = _; simp); simp only [ByteArray.size_append, hl_, List.length_cons, List.length_nil] at *; omega))]))
                           rotate_left
                           · simp only [Act.put, List.setIfInBounds_toArray, List.set_cons_zero, List.set_cons_succ, i64_w, i32_w]
                             rfl
                           refine one_ (i := 25) (N := some 30) #[true, true, true, true, true, true, true, true, true, true, true, true, true, true, true, true, true, true, true, true, true, true, true, true, true, true, false, false, false, false, false, false, false, false, false, false, false, false, false, false, false, false, false, false, false, false, false, false, false, false, false, false, false, false, false, false, false, false] rfl rfl (one_of HT_.out (by kernel_rfl)) (by decide) (fun K hK => ?_)
                           refine goes_ Try.func14 (by kernel_rfl) rfl #[.agg #[.string (⟨#[]⟩ : ByteArray), .int .i64 0, .int .i64 0, .float .f64 0, .bool false, .bool false]] (by rfl) rfl rfl (by (try simp only [List.map_toArray, List.map_cons, List.map_nil]); first | done | rfl | (simp only [List.length_drop, List.length_take]; rfl)) ?_
                           with_reducible refine (rule_Check.calls k (⟨#[]⟩ : ByteArray) 0 0 0 false false t206 _ A11.out).mono ?_
                           rintro e w57 ⟨rfl, hb⟩
                           refine ⟨_, rfl, ?_⟩
                           have n0_ := Aside0.mk (blk_below (g := gb199) (o := .cells #[.string (⟨#[]⟩ : ByteArray), .int .i64 2, .int .i64 10, .float .f64 4605380978949069210, .bool false, .bool false] 24 (0, 0)) (by (with_reducible repeat (first | refine blk_drewN ?_ _ | refine blk_drew ?_ | refine blk_alloc ?_ _)); exact BK199.out) hb)
                           have n1_ := Aside0.mk (blk_below (g := gb200) (o := .cells #[.string (⟨#[97, 124, 98]⟩ : ByteArray), .int .i64 0, .int .i64 0, .float .f64 0, .bool true, .bool true] 24 (0, 0)) (by (with_reducible repeat (first | refine blk_drewN ?_ _ | refine blk_drew ?_ | refine blk_alloc ?_ _)); exact BK200.out) hb)
                           have n2_ := Aside0.mk (below_step (by repeat (first | (with_reducible first | exact HB.out | apply below_alloc | apply pw_below_drewN | apply below_drew1 | refine below_set ?_ GE199.out | refine below_set ?_ GE200.out) | exact HB.out)) hb)
                           clear BK199
                           clear BK200
                           clear HB
                           have BK199 := n0_
                           have BK200 := n1_
                           have HB := n2_
                           clear n0_ n1_ n2_
                           (try clear hb)
                           (try clear hb2)
                           (try clear hk)
                           (try clear hi)
                           refine hK.out _ _ ⟨(blk_cell BK199.out 0).trans rfl, (blk_cell BK199.out 1).trans rfl, (blk_cell BK199.out 2).trans rfl, (blk_cell BK199.out 3).trans rfl, (blk_cell BK199.out 4).trans rfl, (blk_cell BK199.out 5).trans rfl, (blk_cell BK200.out 0).trans rfl, (blk_cell BK200.out 1).trans rfl, (blk_cell BK200.out 2).trans rfl, (blk_cell BK200.out 3).trans rfl, (blk_cell BK200.out 4).trans rfl, (blk_cell BK200.out 5).trans rfl⟩ (fun hHeld => ?_)
                           clear hK K
                           refine norm_ (a' := ?_) ?_ ?_
                           rotate_left
                           · show Act.put _ (some 30) _ = _
                             simp only [Act.put, List.setIfInBounds_toArray, List.set_cons_zero, List.set_cons_succ, i64_w, i32_w]
                             rfl
                           refine pure_ (i := 26) (N := some 31) (v := ?_) (a' := ?_) #[true, true, true, true, true, true, true, true, true, true, true, true, true, true, true, true, true, true, true, true, true, true, true, true, true, true, true, false, false, false, false, false, false, false, false, false, false, false, false, false, false, false, false, false, false, false, false, false, false, false, false, false, false, false, false, false, false, false] rfl rfl (any_of HT_.out (by kernel_rfl)) (fun _ _ _ h => h) (Or.inl ⟨by rfl, ?_⟩) ?_ ?_
                           rotate_left
                           · intro w'
                             go_simp
                             (first | with_reducible rfl | (rw [if_neg (by first | omega | (simp only [ByteArray.size_append] at *; omega) | (have hl_ : ∀ l_ : List UInt8, (⟨l_.toArray⟩ : ByteArray).size = l_.length := (fun l_ => by show l_.toArray.size = _; simp); simp only [ByteArray.size_append, hl_, List.length_cons, List.length_nil] at *; omega))]))
                           rotate_left
                           · simp only [Act.put, List.setIfInBounds_toArray, List.set_cons_zero, List.set_cons_succ, i64_w, i32_w]
                             rfl
                           refine pure_ (i := 27) (N := some 32) (v := ?_) (a' := ?_) #[true, true, true, true, true, true, true, true, true, true, true, true, true, true, true, true, true, true, true, true, true, true, true, true, true, true, true, true, false, false, false, false, false, false, false, false, false, false, false, false, false, false, false, false, false, false, false, false, false, false, false, false, false, false, false, false, false, false] rfl rfl (any_of HT_.out (by kernel_rfl)) (fun _ _ _ h => h) (Or.inl ⟨by rfl, ?_⟩) ?_ ?_
                           rotate_left
                           · intro w'
                             go_simp
                             (first | with_reducible rfl | (rw [if_neg (by first | omega | (simp only [ByteArray.size_append] at *; omega) | (have hl_ : ∀ l_ : List UInt8, (⟨l_.toArray⟩ : ByteArray).size = l_.length := (fun l_ => by show l_.toArray.size = _; simp); simp only [ByteArray.size_append, hl_, List.length_cons, List.length_nil] at *; omega))]))
                           rotate_left
                           · simp only [Act.put, List.setIfInBounds_toArray, List.set_cons_zero, List.set_cons_succ, i64_w, i32_w]
                             rfl
                           refine pure_ (i := 28) (N := some 33) (v := ?_) (a' := ?_) #[true, true, true, true, true, true, true, true, true, true, true, true, true, true, true, true, true, true, true, true, true, true, true, true, true, true, true, true, true, false, false, false, false, false, false, false, false, false, false, false, false, false, false, false, false, false, false, false, false, false, false, false, false, false, false, false, false, false] rfl rfl (any_of HT_.out (by kernel_rfl)) (fun _ _ _ h => h) (Or.inl ⟨by rfl, ?_⟩) ?_ ?_
                           rotate_left
                           · intro w'
                             go_simp
                             (first | with_reducible rfl | (rw [if_neg (by first | omega | (simp only [ByteArray.size_append] at *; omega) | (have hl_ : ∀ l_ : List UInt8, (⟨l_.toArray⟩ : ByteArray).size = l_.length := (fun l_ => by show l_.toArray.size = _; simp); simp only [ByteArray.size_append, hl_, List.length_cons, List.length_nil] at *; omega))]))
                           rotate_left
                           · simp only [Act.put, List.setIfInBounds_toArray, List.set_cons_zero, List.set_cons_succ, i64_w, i32_w]
                             rfl
                           refine take_ (i := 29) (N := some 34) (v := ?_) (a' := ?_) #[true, true, true, true, true, true, true, true, true, true, true, true, true, true, true, true, true, true, true, true, true, true, true, true, true, true, true, true, true, true, false, false, false, false, false, false, false, false, false, false, false, false, false, false, false, false, false, false, false, false, false, false, false, false, false, false, false, false] rfl rfl (take_ofW HT_.out HW_.out (by kernel_rfl)) (fun _ _ _ h => h) (Or.inl ⟨by rfl, ?_⟩) hHeld ?_ ?_
                           rotate_left
                           · rintro w' ⟨s0, s1, s2, s3, s4, s5, s6, s7, s8, s9, s10, s11⟩
                             go_simp
                             (first | with_reducible rfl | (rw [if_neg (by first | omega | (simp only [ByteArray.size_append] at *; omega) | (have hl_ : ∀ l_ : List UInt8, (⟨l_.toArray⟩ : ByteArray).size = l_.length := (fun l_ => by show l_.toArray.size = _; simp); simp only [ByteArray.size_append, hl_, List.length_cons, List.length_nil] at *; omega))]))
                           rotate_left
                           · simp only [Act.put, List.setIfInBounds_toArray, List.set_cons_zero, List.set_cons_succ, i64_w, i32_w]
                             rfl
                           refine one_ (i := 30) (N := some 35) #[true, true, true, true, true, true, true, true, true, true, true, true, true, true, true, true, true, true, true, true, true, true, true, true, true, true, true, true, true, true, true, false, false, false, false, false, false, false, false, false, false, false, false, false, false, false, false, false, false, false, false, false, false, false, false, false, false, false] rfl rfl (one_of HT_.out (by kernel_rfl)) (by decide) (fun K hK => ?_)
                           refine goes_ Try.func10 (by kernel_rfl) rfl #[.agg #[.string (⟨#[]⟩ : ByteArray), .int .i64 2, .int .i64 10, .float .f64 4605380978949069210, .bool false, .bool false], .int .u64 9221120237041090561] (by rfl) rfl rfl (by (try simp only [List.map_toArray, List.map_cons, List.map_nil]); first | done | rfl | (simp only [List.length_drop, List.length_take]; rfl)) ?_
                           with_reducible refine (turncocklaw16_of.calls (⟨#[]⟩ : ByteArray) 2 10 4605380978949069210 false false 9221120237041090561 t207 t208 t209 t210 t211 t212 _ A13.out).mono ?_
                           rintro e w58 ⟨rfl, hb⟩
                           refine ⟨_, rfl, ?_⟩
                           have n0_ := Aside0.mk (blk_below (g := gb199) (o := .cells #[.string (⟨#[]⟩ : ByteArray), .int .i64 2, .int .i64 10, .float .f64 4605380978949069210, .bool false, .bool false] 24 (0, 0)) (by (with_reducible repeat (first | refine blk_drewN ?_ _ | refine blk_drew ?_ | refine blk_alloc ?_ _)); exact BK199.out) hb)
                           have n1_ := Aside0.mk (blk_below (g := gb200) (o := .cells #[.string (⟨#[97, 124, 98]⟩ : ByteArray), .int .i64 0, .int .i64 0, .float .f64 0, .bool true, .bool true] 24 (0, 0)) (by (with_reducible repeat (first | refine blk_drewN ?_ _ | refine blk_drew ?_ | refine blk_alloc ?_ _)); exact BK200.out) hb)
                           have n2_ := Aside0.mk (below_step (by repeat (first | (with_reducible first | exact HB.out | apply below_alloc | apply pw_below_drewN | apply below_drew1 | refine below_set ?_ GE199.out | refine below_set ?_ GE200.out) | exact HB.out)) hb)
                           clear BK199
                           clear BK200
                           clear HB
                           have BK199 := n0_
                           have BK200 := n1_
                           have HB := n2_
                           clear n0_ n1_ n2_
                           (try clear hb)
                           (try clear hb2)
                           (try clear hk)
                           (try clear hi)
                           refine hK.out _ _ ⟨(blk_cell BK199.out 0).trans rfl, (blk_cell BK199.out 1).trans rfl, (blk_cell BK199.out 2).trans rfl, (blk_cell BK199.out 3).trans rfl, (blk_cell BK199.out 4).trans rfl, (blk_cell BK199.out 5).trans rfl, (blk_cell BK200.out 0).trans rfl, (blk_cell BK200.out 1).trans rfl, (blk_cell BK200.out 2).trans rfl, (blk_cell BK200.out 3).trans rfl, (blk_cell BK200.out 4).trans rfl, (blk_cell BK200.out 5).trans rfl⟩ (fun hHeld => ?_)
                           clear hK K
                           refine norm_ (a' := ?_) ?_ ?_
                           rotate_left
                           · show Act.put _ (some 35) _ = _
                             simp only [Act.put, List.setIfInBounds_toArray, List.set_cons_zero, List.set_cons_succ, i64_w, i32_w]
                             rfl
                           refine one_ (i := 31) (N := some 36) #[true, true, true, true, true, true, true, true, true, true, true, true, true, true, true, true, true, true, true, true, true, true, true, true, true, true, true, true, true, true, true, true, false, false, false, false, false, false, false, false, false, false, false, false, false, false, false, false, false, false, false, false, false, false, false, false, false, false] rfl rfl (one_of HT_.out (by kernel_rfl)) (by decide) (fun K hK => ?_)
                           refine goes_ Try.func14 (by kernel_rfl) rfl #[.agg #[.string t207, .int .i64 t208, .int .i64 t209, .float .f64 t210, .bool t211, .bool t212]] (by rfl) rfl rfl (by (try simp only [List.map_toArray, List.map_cons, List.map_nil]); first | done | rfl | (simp only [List.length_drop, List.length_take]; rfl)) ?_
                           with_reducible refine (rule_Check.calls k t207 t208 t209 t210 t211 t212 t213 _ A14.out).mono ?_
                           rintro e w59 ⟨rfl, hb⟩
                           refine ⟨_, rfl, ?_⟩
                           have n0_ := Aside0.mk (blk_below (g := gb199) (o := .cells #[.string (⟨#[]⟩ : ByteArray), .int .i64 2, .int .i64 10, .float .f64 4605380978949069210, .bool false, .bool false] 24 (0, 0)) (by (with_reducible repeat (first | refine blk_drewN ?_ _ | refine blk_drew ?_ | refine blk_alloc ?_ _)); exact BK199.out) hb)
                           have n1_ := Aside0.mk (blk_below (g := gb200) (o := .cells #[.string (⟨#[97, 124, 98]⟩ : ByteArray), .int .i64 0, .int .i64 0, .float .f64 0, .bool true, .bool true] 24 (0, 0)) (by (with_reducible repeat (first | refine blk_drewN ?_ _ | refine blk_drew ?_ | refine blk_alloc ?_ _)); exact BK200.out) hb)
                           have n2_ := Aside0.mk (below_step (by repeat (first | (with_reducible first | exact HB.out | apply below_alloc | apply pw_below_drewN | apply below_drew1 | refine below_set ?_ GE199.out | refine below_set ?_ GE200.out) | exact HB.out)) hb)
                           clear BK199
                           clear BK200
                           clear HB
                           have BK199 := n0_
                           have BK200 := n1_
                           have HB := n2_
                           clear n0_ n1_ n2_
                           (try clear hb)
                           (try clear hb2)
                           (try clear hk)
                           (try clear hi)
                           refine hK.out _ _ ⟨(blk_cell BK199.out 0).trans rfl, (blk_cell BK199.out 1).trans rfl, (blk_cell BK199.out 2).trans rfl, (blk_cell BK199.out 3).trans rfl, (blk_cell BK199.out 4).trans rfl, (blk_cell BK199.out 5).trans rfl, (blk_cell BK200.out 0).trans rfl, (blk_cell BK200.out 1).trans rfl, (blk_cell BK200.out 2).trans rfl, (blk_cell BK200.out 3).trans rfl, (blk_cell BK200.out 4).trans rfl, (blk_cell BK200.out 5).trans rfl⟩ (fun hHeld => ?_)
                           clear hK K
                           refine norm_ (a' := ?_) ?_ ?_
                           rotate_left
                           · show Act.put _ (some 36) _ = _
                             simp only [Act.put, List.setIfInBounds_toArray, List.set_cons_zero, List.set_cons_succ, i64_w, i32_w]
                             rfl
                           refine pure_ (i := 32) (N := some 37) (v := ?_) (a' := ?_) #[true, true, true, true, true, true, true, true, true, true, true, true, true, true, true, true, true, true, true, true, true, true, true, true, true, true, true, true, true, true, true, true, true, false, false, false, false, false, false, false, false, false, false, false, false, false, false, false, false, false, false, false, false, false, false, false, false, false] rfl rfl (any_of HT_.out (by kernel_rfl)) (fun _ _ _ h => h) (Or.inl ⟨by rfl, ?_⟩) ?_ ?_
                           rotate_left
                           · intro w'
                             go_simp
                             (first | with_reducible rfl | (rw [if_neg (by first | omega | (simp only [ByteArray.size_append] at *; omega) | (have hl_ : ∀ l_ : List UInt8, (⟨l_.toArray⟩ : ByteArray).size = l_.length := (fun l_ => by show l_.toArray.size = _; simp); simp only [ByteArray.size_append, hl_, List.length_cons, List.length_nil] at *; omega))]))
                           rotate_left
                           · simp only [Act.put, List.setIfInBounds_toArray, List.set_cons_zero, List.set_cons_succ, i64_w, i32_w]
                             rfl
                           refine pure_ (i := 33) (N := some 38) (v := ?_) (a' := ?_) #[true, true, true, true, true, true, true, true, true, true, true, true, true, true, true, true, true, true, true, true, true, true, true, true, true, true, true, true, true, true, true, true, true, true, false, false, false, false, false, false, false, false, false, false, false, false, false, false, false, false, false, false, false, false, false, false, false, false] rfl rfl (any_of HT_.out (by kernel_rfl)) (fun _ _ _ h => h) (Or.inl ⟨by rfl, ?_⟩) ?_ ?_
                           rotate_left
                           · intro w'
                             go_simp
                             (first | with_reducible rfl | (rw [if_neg (by first | omega | (simp only [ByteArray.size_append] at *; omega) | (have hl_ : ∀ l_ : List UInt8, (⟨l_.toArray⟩ : ByteArray).size = l_.length := (fun l_ => by show l_.toArray.size = _; simp); simp only [ByteArray.size_append, hl_, List.length_cons, List.length_nil] at *; omega))]))
                           rotate_left
                           · simp only [Act.put, List.setIfInBounds_toArray, List.set_cons_zero, List.set_cons_succ, i64_w, i32_w]
                             rfl
                           refine pure_ (i := 34) (N := some 39) (v := ?_) (a' := ?_) #[true, true, true, true, true, true, true, true, true, true, true, true, true, true, true, true, true, true, true, true, true, true, true, true, true, true, true, true, true, true, true, true, true, true, true, false, false, false, false, false, false, false, false, false, false, false, false, false, false, false, false, false, false, false, false, false, false, false] rfl rfl (any_of HT_.out (by kernel_rfl)) (fun _ _ _ h => h) (Or.inl ⟨by rfl, ?_⟩) ?_ ?_
                           rotate_left
                           · intro w'
                             go_simp
                             (first | with_reducible rfl | (rw [if_neg (by first | omega | (simp only [ByteArray.size_append] at *; omega) | (have hl_ : ∀ l_ : List UInt8, (⟨l_.toArray⟩ : ByteArray).size = l_.length := (fun l_ => by show l_.toArray.size = _; simp); simp only [ByteArray.size_append, hl_, List.length_cons, List.length_nil] at *; omega))]))
                           rotate_left
                           · simp only [Act.put, List.setIfInBounds_toArray, List.set_cons_zero, List.set_cons_succ, i64_w, i32_w]
                             rfl
                           refine take_ (i := 35) (N := some 40) (v := ?_) (a' := ?_) #[true, true, true, true, true, true, true, true, true, true, true, true, true, true, true, true, true, true, true, true, true, true, true, true, true, true, true, true, true, true, true, true, true, true, true, true, false, false, false, false, false, false, false, false, false, false, false, false, false, false, false, false, false, false, false, false, false, false] rfl rfl (take_ofW HT_.out HW_.out (by kernel_rfl)) (fun _ _ _ h => h) (Or.inl ⟨by rfl, ?_⟩) hHeld ?_ ?_
                           rotate_left
                           · rintro w' ⟨s0, s1, s2, s3, s4, s5, s6, s7, s8, s9, s10, s11⟩
                             go_simp
                             (first | with_reducible rfl | (rw [if_neg (by first | omega | (simp only [ByteArray.size_append] at *; omega) | (have hl_ : ∀ l_ : List UInt8, (⟨l_.toArray⟩ : ByteArray).size = l_.length := (fun l_ => by show l_.toArray.size = _; simp); simp only [ByteArray.size_append, hl_, List.length_cons, List.length_nil] at *; omega))]))
                           rotate_left
                           · simp only [Act.put, List.setIfInBounds_toArray, List.set_cons_zero, List.set_cons_succ, i64_w, i32_w]
                             rfl
                           refine one_ (i := 36) (N := some 41) #[true, true, true, true, true, true, true, true, true, true, true, true, true, true, true, true, true, true, true, true, true, true, true, true, true, true, true, true, true, true, true, true, true, true, true, true, true, false, false, false, false, false, false, false, false, false, false, false, false, false, false, false, false, false, false, false, false, false] rfl rfl (one_of HT_.out (by kernel_rfl)) (by decide) (fun K hK => ?_)
                           refine goes_ Try.func10 (by kernel_rfl) rfl #[.agg #[.string (⟨#[]⟩ : ByteArray), .int .i64 2, .int .i64 10, .float .f64 4605380978949069210, .bool false, .bool false], .int .u64 9223372036854775808] (by rfl) rfl rfl (by (try simp only [List.map_toArray, List.map_cons, List.map_nil]); first | done | rfl | (simp only [List.length_drop, List.length_take]; rfl)) ?_
                           with_reducible refine (turncocklaw16_of.calls (⟨#[]⟩ : ByteArray) 2 10 4605380978949069210 false false 9223372036854775808 t214 t215 t216 t217 t218 t219 _ A16.out).mono ?_
                           rintro e w60 ⟨rfl, hb⟩
                           refine ⟨_, rfl, ?_⟩
                           have n0_ := Aside0.mk (blk_below (g := gb199) (o := .cells #[.string (⟨#[]⟩ : ByteArray), .int .i64 2, .int .i64 10, .float .f64 4605380978949069210, .bool false, .bool false] 24 (0, 0)) (by (with_reducible repeat (first | refine blk_drewN ?_ _ | refine blk_drew ?_ | refine blk_alloc ?_ _)); exact BK199.out) hb)
                           have n1_ := Aside0.mk (blk_below (g := gb200) (o := .cells #[.string (⟨#[97, 124, 98]⟩ : ByteArray), .int .i64 0, .int .i64 0, .float .f64 0, .bool true, .bool true] 24 (0, 0)) (by (with_reducible repeat (first | refine blk_drewN ?_ _ | refine blk_drew ?_ | refine blk_alloc ?_ _)); exact BK200.out) hb)
                           have n2_ := Aside0.mk (below_step (by repeat (first | (with_reducible first | exact HB.out | apply below_alloc | apply pw_below_drewN | apply below_drew1 | refine below_set ?_ GE199.out | refine below_set ?_ GE200.out) | exact HB.out)) hb)
                           clear BK199
                           clear BK200
                           clear HB
                           have BK199 := n0_
                           have BK200 := n1_
                           have HB := n2_
                           clear n0_ n1_ n2_
                           (try clear hb)
                           (try clear hb2)
                           (try clear hk)
                           (try clear hi)
                           refine hK.out _ _ ⟨(blk_cell BK199.out 0).trans rfl, (blk_cell BK199.out 1).trans rfl, (blk_cell BK199.out 2).trans rfl, (blk_cell BK199.out 3).trans rfl, (blk_cell BK199.out 4).trans rfl, (blk_cell BK199.out 5).trans rfl, (blk_cell BK200.out 0).trans rfl, (blk_cell BK200.out 1).trans rfl, (blk_cell BK200.out 2).trans rfl, (blk_cell BK200.out 3).trans rfl, (blk_cell BK200.out 4).trans rfl, (blk_cell BK200.out 5).trans rfl⟩ (fun hHeld => ?_)
                           clear hK K
                           refine norm_ (a' := ?_) ?_ ?_
                           rotate_left
                           · show Act.put _ (some 41) _ = _
                             simp only [Act.put, List.setIfInBounds_toArray, List.set_cons_zero, List.set_cons_succ, i64_w, i32_w]
                             rfl
                           refine one_ (i := 37) (N := some 42) #[true, true, true, true, true, true, true, true, true, true, true, true, true, true, true, true, true, true, true, true, true, true, true, true, true, true, true, true, true, true, true, true, true, true, true, true, true, true, false, false, false, false, false, false, false, false, false, false, false, false, false, false, false, false, false, false, false, false] rfl rfl (one_of HT_.out (by kernel_rfl)) (by decide) (fun K hK => ?_)
                           refine goes_ Try.func14 (by kernel_rfl) rfl #[.agg #[.string t214, .int .i64 t215, .int .i64 t216, .float .f64 t217, .bool t218, .bool t219]] (by rfl) rfl rfl (by (try simp only [List.map_toArray, List.map_cons, List.map_nil]); first | done | rfl | (simp only [List.length_drop, List.length_take]; rfl)) ?_
                           with_reducible refine (rule_Check.calls k t214 t215 t216 t217 t218 t219 t220 _ A17.out).mono ?_
                           rintro e w61 ⟨rfl, hb⟩
                           refine ⟨_, rfl, ?_⟩
                           have n0_ := Aside0.mk (blk_below (g := gb199) (o := .cells #[.string (⟨#[]⟩ : ByteArray), .int .i64 2, .int .i64 10, .float .f64 4605380978949069210, .bool false, .bool false] 24 (0, 0)) (by (with_reducible repeat (first | refine blk_drewN ?_ _ | refine blk_drew ?_ | refine blk_alloc ?_ _)); exact BK199.out) hb)
                           have n1_ := Aside0.mk (blk_below (g := gb200) (o := .cells #[.string (⟨#[97, 124, 98]⟩ : ByteArray), .int .i64 0, .int .i64 0, .float .f64 0, .bool true, .bool true] 24 (0, 0)) (by (with_reducible repeat (first | refine blk_drewN ?_ _ | refine blk_drew ?_ | refine blk_alloc ?_ _)); exact BK200.out) hb)
                           have n2_ := Aside0.mk (below_step (by repeat (first | (with_reducible first | exact HB.out | apply below_alloc | apply pw_below_drewN | apply below_drew1 | refine below_set ?_ GE199.out | refine below_set ?_ GE200.out) | exact HB.out)) hb)
                           clear BK199
                           clear BK200
                           clear HB
                           have BK199 := n0_
                           have BK200 := n1_
                           have HB := n2_
                           clear n0_ n1_ n2_
                           (try clear hb)
                           (try clear hb2)
                           (try clear hk)
                           (try clear hi)
                           refine hK.out _ _ ⟨(blk_cell BK199.out 0).trans rfl, (blk_cell BK199.out 1).trans rfl, (blk_cell BK199.out 2).trans rfl, (blk_cell BK199.out 3).trans rfl, (blk_cell BK199.out 4).trans rfl, (blk_cell BK199.out 5).trans rfl, (blk_cell BK200.out 0).trans rfl, (blk_cell BK200.out 1).trans rfl, (blk_cell BK200.out 2).trans rfl, (blk_cell BK200.out 3).trans rfl, (blk_cell BK200.out 4).trans rfl, (blk_cell BK200.out 5).trans rfl⟩ (fun hHeld => ?_)
                           clear hK K
                           refine norm_ (a' := ?_) ?_ ?_
                           rotate_left
                           · show Act.put _ (some 42) _ = _
                             simp only [Act.put, List.setIfInBounds_toArray, List.set_cons_zero, List.set_cons_succ, i64_w, i32_w]
                             rfl
                           refine pure_ (i := 38) (N := some 43) (v := ?_) (a' := ?_) #[true, true, true, true, true, true, true, true, true, true, true, true, true, true, true, true, true, true, true, true, true, true, true, true, true, true, true, true, true, true, true, true, true, true, true, true, true, true, true, false, false, false, false, false, false, false, false, false, false, false, false, false, false, false, false, false, false, false] rfl rfl (any_of HT_.out (by kernel_rfl)) (fun _ _ _ h => h) (Or.inl ⟨by rfl, ?_⟩) ?_ ?_
                           rotate_left
                           · intro w'
                             go_simp
                             (first | with_reducible rfl | (rw [if_neg (by first | omega | (simp only [ByteArray.size_append] at *; omega) | (have hl_ : ∀ l_ : List UInt8, (⟨l_.toArray⟩ : ByteArray).size = l_.length := (fun l_ => by show l_.toArray.size = _; simp); simp only [ByteArray.size_append, hl_, List.length_cons, List.length_nil] at *; omega))]))
                           rotate_left
                           · simp only [Act.put, List.setIfInBounds_toArray, List.set_cons_zero, List.set_cons_succ, i64_w, i32_w]
                             rfl
                           refine pure_ (i := 39) (N := some 44) (v := ?_) (a' := ?_) #[true, true, true, true, true, true, true, true, true, true, true, true, true, true, true, true, true, true, true, true, true, true, true, true, true, true, true, true, true, true, true, true, true, true, true, true, true, true, true, true, false, false, false, false, false, false, false, false, false, false, false, false, false, false, false, false, false, false] rfl rfl (any_of HT_.out (by kernel_rfl)) (fun _ _ _ h => h) (Or.inl ⟨by rfl, ?_⟩) ?_ ?_
                           rotate_left
                           · intro w'
                             go_simp
                             (first | with_reducible rfl | (rw [if_neg (by first | omega | (simp only [ByteArray.size_append] at *; omega) | (have hl_ : ∀ l_ : List UInt8, (⟨l_.toArray⟩ : ByteArray).size = l_.length := (fun l_ => by show l_.toArray.size = _; simp); simp only [ByteArray.size_append, hl_, List.length_cons, List.length_nil] at *; omega))]))
                           rotate_left
                           · simp only [Act.put, List.setIfInBounds_toArray, List.set_cons_zero, List.set_cons_succ, i64_w, i32_w]
                             rfl
                           refine pure_ (i := 40) (N := some 45) (v := ?_) (a' := ?_) #[true, true, true, true, true, true, true, true, true, true, true, true, true, true, true, true, true, true, true, true, true, true, true, true, true, true, true, true, true, true, true, true, true, true, true, true, true, true, true, true, true, false, false, false, false, false, false, false, false, false, false, false, false, false, false, false, false, false] rfl rfl (any_of HT_.out (by kernel_rfl)) (fun _ _ _ h => h) (Or.inl ⟨by rfl, ?_⟩) ?_ ?_
                           rotate_left
                           · intro w'
                             go_simp
                             (first | with_reducible rfl | (rw [if_neg (by first | omega | (simp only [ByteArray.size_append] at *; omega) | (have hl_ : ∀ l_ : List UInt8, (⟨l_.toArray⟩ : ByteArray).size = l_.length := (fun l_ => by show l_.toArray.size = _; simp); simp only [ByteArray.size_append, hl_, List.length_cons, List.length_nil] at *; omega))]))
                           rotate_left
                           · simp only [Act.put, List.setIfInBounds_toArray, List.set_cons_zero, List.set_cons_succ, i64_w, i32_w]
                             rfl
                           refine take_ (i := 41) (N := some 46) (v := ?_) (a' := ?_) #[true, true, true, true, true, true, true, true, true, true, true, true, true, true, true, true, true, true, true, true, true, true, true, true, true, true, true, true, true, true, true, true, true, true, true, true, true, true, true, true, true, true, false, false, false, false, false, false, false, false, false, false, false, false, false, false, false, false] rfl rfl (take_ofW HT_.out HW_.out (by kernel_rfl)) (fun _ _ _ h => h) (Or.inl ⟨by rfl, ?_⟩) hHeld ?_ ?_
                           rotate_left
                           · rintro w' ⟨s0, s1, s2, s3, s4, s5, s6, s7, s8, s9, s10, s11⟩
                             go_simp
                             (first | with_reducible rfl | (rw [if_neg (by first | omega | (simp only [ByteArray.size_append] at *; omega) | (have hl_ : ∀ l_ : List UInt8, (⟨l_.toArray⟩ : ByteArray).size = l_.length := (fun l_ => by show l_.toArray.size = _; simp); simp only [ByteArray.size_append, hl_, List.length_cons, List.length_nil] at *; omega))]))
                           rotate_left
                           · simp only [Act.put, List.setIfInBounds_toArray, List.set_cons_zero, List.set_cons_succ, i64_w, i32_w]
                             rfl
                           refine take_ (i := 42) (N := some 47) (v := ?_) (a' := ?_) #[true, true, true, true, true, true, true, true, true, true, true, true, true, true, true, true, true, true, true, true, true, true, true, true, true, true, true, true, true, true, true, true, true, true, true, true, true, true, true, true, true, true, true, false, false, false, false, false, false, false, false, false, false, false, false, false, false, false] rfl rfl (take_ofW HT_.out HW_.out (by kernel_rfl)) (fun _ _ _ h => h) (Or.inl ⟨by rfl, ?_⟩) hHeld ?_ ?_
                           rotate_left
                           · rintro w' ⟨s0, s1, s2, s3, s4, s5, s6, s7, s8, s9, s10, s11⟩
                             go_simp
                             (first | with_reducible rfl | (rw [if_neg (by first | omega | (simp only [ByteArray.size_append] at *; omega) | (have hl_ : ∀ l_ : List UInt8, (⟨l_.toArray⟩ : ByteArray).size = l_.length := (fun l_ => by show l_.toArray.size = _; simp); simp only [ByteArray.size_append, hl_, List.length_cons, List.length_nil] at *; omega))]))
                           rotate_left
                           · simp only [Act.put, List.setIfInBounds_toArray, List.set_cons_zero, List.set_cons_succ, i64_w, i32_w]
                             rfl
                           refine one_ (i := 43) (N := some 48) #[true, true, true, true, true, true, true, true, true, true, true, true, true, true, true, true, true, true, true, true, true, true, true, true, true, true, true, true, true, true, true, true, true, true, true, true, true, true, true, true, true, true, true, true, false, false, false, false, false, false, false, false, false, false, false, false, false, false] rfl rfl (one_of HT_.out (by kernel_rfl)) (by decide) (fun K hK => ?_)
                           refine goes_ Try.func11 (by kernel_rfl) rfl #[.agg #[.string (⟨#[]⟩ : ByteArray), .int .i64 2, .int .i64 10, .float .f64 4605380978949069210, .bool false, .bool false], .agg #[.string (⟨#[]⟩ : ByteArray), .int .i64 2, .int .i64 10, .float .f64 4605380978949069210, .bool false, .bool false]] (by rfl) rfl rfl (by (try simp only [List.map_toArray, List.map_cons, List.map_nil]); first | done | rfl | (simp only [List.length_drop, List.length_take]; rfl)) ?_
                           with_reducible refine (rule_Same.calls (⟨#[]⟩ : ByteArray) 2 10 4605380978949069210 false false (⟨#[]⟩ : ByteArray) 2 10 4605380978949069210 false false true _ A19.out).mono ?_
                           rintro e w62 ⟨rfl, hb⟩
                           refine ⟨_, rfl, ?_⟩
                           have n0_ := Aside0.mk (blk_below (g := gb199) (o := .cells #[.string (⟨#[]⟩ : ByteArray), .int .i64 2, .int .i64 10, .float .f64 4605380978949069210, .bool false, .bool false] 24 (0, 0)) (by (with_reducible repeat (first | refine blk_drewN ?_ _ | refine blk_drew ?_ | refine blk_alloc ?_ _)); exact BK199.out) hb)
                           have n1_ := Aside0.mk (blk_below (g := gb200) (o := .cells #[.string (⟨#[97, 124, 98]⟩ : ByteArray), .int .i64 0, .int .i64 0, .float .f64 0, .bool true, .bool true] 24 (0, 0)) (by (with_reducible repeat (first | refine blk_drewN ?_ _ | refine blk_drew ?_ | refine blk_alloc ?_ _)); exact BK200.out) hb)
                           have n2_ := Aside0.mk (below_step (by repeat (first | (with_reducible first | exact HB.out | apply below_alloc | apply pw_below_drewN | apply below_drew1 | refine below_set ?_ GE199.out | refine below_set ?_ GE200.out) | exact HB.out)) hb)
                           clear BK199
                           clear BK200
                           clear HB
                           have BK199 := n0_
                           have BK200 := n1_
                           have HB := n2_
                           clear n0_ n1_ n2_
                           (try clear hb)
                           (try clear hb2)
                           (try clear hk)
                           (try clear hi)
                           refine hK.out _ _ ⟨(blk_cell BK199.out 0).trans rfl, (blk_cell BK199.out 1).trans rfl, (blk_cell BK199.out 2).trans rfl, (blk_cell BK199.out 3).trans rfl, (blk_cell BK199.out 4).trans rfl, (blk_cell BK199.out 5).trans rfl, (blk_cell BK200.out 0).trans rfl, (blk_cell BK200.out 1).trans rfl, (blk_cell BK200.out 2).trans rfl, (blk_cell BK200.out 3).trans rfl, (blk_cell BK200.out 4).trans rfl, (blk_cell BK200.out 5).trans rfl⟩ (fun hHeld => ?_)
                           clear hK K
                           refine norm_ (a' := ?_) ?_ ?_
                           rotate_left
                           · show Act.put _ (some 48) _ = _
                             simp only [Act.put, List.setIfInBounds_toArray, List.set_cons_zero, List.set_cons_succ, i64_w, i32_w]
                             rfl
                           refine pure_ (i := 44) (N := some 49) (v := ?_) (a' := ?_) #[true, true, true, true, true, true, true, true, true, true, true, true, true, true, true, true, true, true, true, true, true, true, true, true, true, true, true, true, true, true, true, true, true, true, true, true, true, true, true, true, true, true, true, true, true, false, false, false, false, false, false, false, false, false, false, false, false, false] rfl rfl (any_of HT_.out (by kernel_rfl)) (fun _ _ _ h => h) (Or.inl ⟨by rfl, ?_⟩) ?_ ?_
                           rotate_left
                           · intro w'
                             go_simp
                             (first | with_reducible rfl | (rw [if_neg (by first | omega | (simp only [ByteArray.size_append] at *; omega) | (have hl_ : ∀ l_ : List UInt8, (⟨l_.toArray⟩ : ByteArray).size = l_.length := (fun l_ => by show l_.toArray.size = _; simp); simp only [ByteArray.size_append, hl_, List.length_cons, List.length_nil] at *; omega))]))
                           rotate_left
                           · simp only [Act.put, List.setIfInBounds_toArray, List.set_cons_zero, List.set_cons_succ, i64_w, i32_w]
                             rfl
                           refine pure_ (i := 45) (N := some 50) (v := ?_) (a' := ?_) #[true, true, true, true, true, true, true, true, true, true, true, true, true, true, true, true, true, true, true, true, true, true, true, true, true, true, true, true, true, true, true, true, true, true, true, true, true, true, true, true, true, true, true, true, true, true, false, false, false, false, false, false, false, false, false, false, false, false] rfl rfl (any_of HT_.out (by kernel_rfl)) (fun _ _ _ h => h) (Or.inl ⟨by rfl, ?_⟩) ?_ ?_
                           rotate_left
                           · intro w'
                             go_simp
                             (first | with_reducible rfl | (rw [if_neg (by first | omega | (simp only [ByteArray.size_append] at *; omega) | (have hl_ : ∀ l_ : List UInt8, (⟨l_.toArray⟩ : ByteArray).size = l_.length := (fun l_ => by show l_.toArray.size = _; simp); simp only [ByteArray.size_append, hl_, List.length_cons, List.length_nil] at *; omega))]))
                           rotate_left
                           · simp only [Act.put, List.setIfInBounds_toArray, List.set_cons_zero, List.set_cons_succ, i64_w, i32_w]
                             rfl
                           refine take_ (i := 46) (N := some 51) (v := ?_) (a' := ?_) #[true, true, true, true, true, true, true, true, true, true, true, true, true, true, true, true, true, true, true, true, true, true, true, true, true, true, true, true, true, true, true, true, true, true, true, true, true, true, true, true, true, true, true, true, true, true, true, false, false, false, false, false, false, false, false, false, false, false] rfl rfl (take_ofW HT_.out HW_.out (by kernel_rfl)) (fun _ _ _ h => h) (Or.inl ⟨by rfl, ?_⟩) hHeld ?_ ?_
                           rotate_left
                           · rintro w' ⟨s0, s1, s2, s3, s4, s5, s6, s7, s8, s9, s10, s11⟩
                             go_simp
                             (first | with_reducible rfl | (rw [if_neg (by first | omega | (simp only [ByteArray.size_append] at *; omega) | (have hl_ : ∀ l_ : List UInt8, (⟨l_.toArray⟩ : ByteArray).size = l_.length := (fun l_ => by show l_.toArray.size = _; simp); simp only [ByteArray.size_append, hl_, List.length_cons, List.length_nil] at *; omega))]))
                           rotate_left
                           · simp only [Act.put, List.setIfInBounds_toArray, List.set_cons_zero, List.set_cons_succ, i64_w, i32_w]
                             rfl
                           refine take_ (i := 47) (N := some 52) (v := ?_) (a' := ?_) #[true, true, true, true, true, true, true, true, true, true, true, true, true, true, true, true, true, true, true, true, true, true, true, true, true, true, true, true, true, true, true, true, true, true, true, true, true, true, true, true, true, true, true, true, true, true, true, true, false, false, false, false, false, false, false, false, false, false] rfl rfl (take_ofW HT_.out HW_.out (by kernel_rfl)) (fun _ _ _ h => h) (Or.inl ⟨by rfl, ?_⟩) hHeld ?_ ?_
                           rotate_left
                           · rintro w' ⟨s0, s1, s2, s3, s4, s5, s6, s7, s8, s9, s10, s11⟩
                             go_simp
                             (first | with_reducible rfl | (rw [if_neg (by first | omega | (simp only [ByteArray.size_append] at *; omega) | (have hl_ : ∀ l_ : List UInt8, (⟨l_.toArray⟩ : ByteArray).size = l_.length := (fun l_ => by show l_.toArray.size = _; simp); simp only [ByteArray.size_append, hl_, List.length_cons, List.length_nil] at *; omega))]))
                           rotate_left
                           · simp only [Act.put, List.setIfInBounds_toArray, List.set_cons_zero, List.set_cons_succ, i64_w, i32_w]
                             rfl
                           refine one_ (i := 48) (N := some 53) #[true, true, true, true, true, true, true, true, true, true, true, true, true, true, true, true, true, true, true, true, true, true, true, true, true, true, true, true, true, true, true, true, true, true, true, true, true, true, true, true, true, true, true, true, true, true, true, true, true, false, false, false, false, false, false, false, false, false] rfl rfl (one_of HT_.out (by kernel_rfl)) (by decide) (fun K hK => ?_)
                           refine goes_ Try.func10 (by kernel_rfl) rfl #[.agg #[.string (⟨#[]⟩ : ByteArray), .int .i64 2, .int .i64 10, .float .f64 4605380978949069210, .bool false, .bool false], .int .u64 0] (by rfl) rfl rfl (by (try simp only [List.map_toArray, List.map_cons, List.map_nil]); first | done | rfl | (simp only [List.length_drop, List.length_take]; rfl)) ?_
                           with_reducible refine (turncocklaw16_of.calls (⟨#[]⟩ : ByteArray) 2 10 4605380978949069210 false false 0 t222 t223 t224 t225 t226 t227 _ A21.out).mono ?_
                           rintro e w63 ⟨rfl, hb⟩
                           refine ⟨_, rfl, ?_⟩
                           have n0_ := Aside0.mk (blk_below (g := gb199) (o := .cells #[.string (⟨#[]⟩ : ByteArray), .int .i64 2, .int .i64 10, .float .f64 4605380978949069210, .bool false, .bool false] 24 (0, 0)) (by (with_reducible repeat (first | refine blk_drewN ?_ _ | refine blk_drew ?_ | refine blk_alloc ?_ _)); exact BK199.out) hb)
                           have n1_ := Aside0.mk (blk_below (g := gb200) (o := .cells #[.string (⟨#[97, 124, 98]⟩ : ByteArray), .int .i64 0, .int .i64 0, .float .f64 0, .bool true, .bool true] 24 (0, 0)) (by (with_reducible repeat (first | refine blk_drewN ?_ _ | refine blk_drew ?_ | refine blk_alloc ?_ _)); exact BK200.out) hb)
                           have n2_ := Aside0.mk (below_step (by repeat (first | (with_reducible first | exact HB.out | apply below_alloc | apply pw_below_drewN | apply below_drew1 | refine below_set ?_ GE199.out | refine below_set ?_ GE200.out) | exact HB.out)) hb)
                           clear BK199
                           clear BK200
                           clear HB
                           have BK199 := n0_
                           have BK200 := n1_
                           have HB := n2_
                           clear n0_ n1_ n2_
                           (try clear hb)
                           (try clear hb2)
                           (try clear hk)
                           (try clear hi)
                           refine hK.out _ _ ⟨(blk_cell BK199.out 0).trans rfl, (blk_cell BK199.out 1).trans rfl, (blk_cell BK199.out 2).trans rfl, (blk_cell BK199.out 3).trans rfl, (blk_cell BK199.out 4).trans rfl, (blk_cell BK199.out 5).trans rfl, (blk_cell BK200.out 0).trans rfl, (blk_cell BK200.out 1).trans rfl, (blk_cell BK200.out 2).trans rfl, (blk_cell BK200.out 3).trans rfl, (blk_cell BK200.out 4).trans rfl, (blk_cell BK200.out 5).trans rfl⟩ (fun hHeld => ?_)
                           clear hK K
                           refine norm_ (a' := ?_) ?_ ?_
                           rotate_left
                           · show Act.put _ (some 53) _ = _
                             simp only [Act.put, List.setIfInBounds_toArray, List.set_cons_zero, List.set_cons_succ, i64_w, i32_w]
                             rfl
                           refine one_ (i := 49) (N := some 54) #[true, true, true, true, true, true, true, true, true, true, true, true, true, true, true, true, true, true, true, true, true, true, true, true, true, true, true, true, true, true, true, true, true, true, true, true, true, true, true, true, true, true, true, true, true, true, true, true, true, true, false, false, false, false, false, false, false, false] rfl rfl (one_of HT_.out (by kernel_rfl)) (by decide) (fun K hK => ?_)
                           refine goes_ Try.func11 (by kernel_rfl) rfl #[.agg #[.string (⟨#[]⟩ : ByteArray), .int .i64 2, .int .i64 10, .float .f64 4605380978949069210, .bool false, .bool false], .agg #[.string t222, .int .i64 t223, .int .i64 t224, .float .f64 t225, .bool t226, .bool t227]] (by rfl) rfl rfl (by (try simp only [List.map_toArray, List.map_cons, List.map_nil]); first | done | rfl | (simp only [List.length_drop, List.length_take]; rfl)) ?_
                           with_reducible refine (rule_Same.calls (⟨#[]⟩ : ByteArray) 2 10 4605380978949069210 false false t222 t223 t224 t225 t226 t227 false _ A22.out).mono ?_
                           rintro e w64 ⟨rfl, hb⟩
                           refine ⟨_, rfl, ?_⟩
                           have n0_ := Aside0.mk (blk_below (g := gb199) (o := .cells #[.string (⟨#[]⟩ : ByteArray), .int .i64 2, .int .i64 10, .float .f64 4605380978949069210, .bool false, .bool false] 24 (0, 0)) (by (with_reducible repeat (first | refine blk_drewN ?_ _ | refine blk_drew ?_ | refine blk_alloc ?_ _)); exact BK199.out) hb)
                           have n1_ := Aside0.mk (blk_below (g := gb200) (o := .cells #[.string (⟨#[97, 124, 98]⟩ : ByteArray), .int .i64 0, .int .i64 0, .float .f64 0, .bool true, .bool true] 24 (0, 0)) (by (with_reducible repeat (first | refine blk_drewN ?_ _ | refine blk_drew ?_ | refine blk_alloc ?_ _)); exact BK200.out) hb)
                           have n2_ := Aside0.mk (below_step (by repeat (first | (with_reducible first | exact HB.out | apply below_alloc | apply pw_below_drewN | apply below_drew1 | refine below_set ?_ GE199.out | refine below_set ?_ GE200.out) | exact HB.out)) hb)
                           clear BK199
                           clear BK200
                           clear HB
                           have BK199 := n0_
                           have BK200 := n1_
                           have HB := n2_
                           clear n0_ n1_ n2_
                           (try clear hb)
                           (try clear hb2)
                           (try clear hk)
                           (try clear hi)
                           refine hK.out _ _ ⟨(blk_cell BK199.out 0).trans rfl, (blk_cell BK199.out 1).trans rfl, (blk_cell BK199.out 2).trans rfl, (blk_cell BK199.out 3).trans rfl, (blk_cell BK199.out 4).trans rfl, (blk_cell BK199.out 5).trans rfl, (blk_cell BK200.out 0).trans rfl, (blk_cell BK200.out 1).trans rfl, (blk_cell BK200.out 2).trans rfl, (blk_cell BK200.out 3).trans rfl, (blk_cell BK200.out 4).trans rfl, (blk_cell BK200.out 5).trans rfl⟩ (fun hHeld => ?_)
                           clear hK K
                           refine norm_ (a' := ?_) ?_ ?_
                           rotate_left
                           · show Act.put _ (some 54) _ = _
                             simp only [Act.put, List.setIfInBounds_toArray, List.set_cons_zero, List.set_cons_succ, i64_w, i32_w]
                             rfl
                           refine pure_ (i := 50) (N := some 55) (v := ?_) (a' := ?_) #[true, true, true, true, true, true, true, true, true, true, true, true, true, true, true, true, true, true, true, true, true, true, true, true, true, true, true, true, true, true, true, true, true, true, true, true, true, true, true, true, true, true, true, true, true, true, true, true, true, true, true, false, false, false, false, false, false, false] rfl rfl (any_of HT_.out (by kernel_rfl)) (fun _ _ _ h => h) (Or.inl ⟨by rfl, ?_⟩) ?_ ?_
                           rotate_left
                           · intro w'
                             go_simp
                             (first | with_reducible rfl | (rw [if_neg (by first | omega | (simp only [ByteArray.size_append] at *; omega) | (have hl_ : ∀ l_ : List UInt8, (⟨l_.toArray⟩ : ByteArray).size = l_.length := (fun l_ => by show l_.toArray.size = _; simp); simp only [ByteArray.size_append, hl_, List.length_cons, List.length_nil] at *; omega))]))
                           rotate_left
                           · simp only [Act.put, List.setIfInBounds_toArray, List.set_cons_zero, List.set_cons_succ, i64_w, i32_w]
                             rfl
                           refine pure_ (i := 51) (N := some 56) (v := ?_) (a' := ?_) #[true, true, true, true, true, true, true, true, true, true, true, true, true, true, true, true, true, true, true, true, true, true, true, true, true, true, true, true, true, true, true, true, true, true, true, true, true, true, true, true, true, true, true, true, true, true, true, true, true, true, true, true, false, false, false, false, false, false] rfl rfl (any_of HT_.out (by kernel_rfl)) (fun _ _ _ h => h) (Or.inl ⟨by rfl, ?_⟩) ?_ ?_
                           rotate_left
                           · intro w'
                             go_simp
                             (first | with_reducible rfl | (rw [if_neg (by first | omega | (simp only [ByteArray.size_append] at *; omega) | (have hl_ : ∀ l_ : List UInt8, (⟨l_.toArray⟩ : ByteArray).size = l_.length := (fun l_ => by show l_.toArray.size = _; simp); simp only [ByteArray.size_append, hl_, List.length_cons, List.length_nil] at *; omega))]))
                           rotate_left
                           · simp only [Act.put, List.setIfInBounds_toArray, List.set_cons_zero, List.set_cons_succ, i64_w, i32_w]
                             rfl
                           refine pure_ (i := 52) (N := some 57) (v := ?_) (a' := ?_) #[true, true, true, true, true, true, true, true, true, true, true, true, true, true, true, true, true, true, true, true, true, true, true, true, true, true, true, true, true, true, true, true, true, true, true, true, true, true, true, true, true, true, true, true, true, true, true, true, true, true, true, true, true, false, false, false, false, false] rfl rfl (any_of HT_.out (by kernel_rfl)) (fun _ _ _ h => h) (Or.inl ⟨by rfl, ?_⟩) ?_ ?_
                           rotate_left
                           · intro w'
                             go_simp
                             (first | with_reducible rfl | (rw [if_neg (by first | omega | (simp only [ByteArray.size_append] at *; omega) | (have hl_ : ∀ l_ : List UInt8, (⟨l_.toArray⟩ : ByteArray).size = l_.length := (fun l_ => by show l_.toArray.size = _; simp); simp only [ByteArray.size_append, hl_, List.length_cons, List.length_nil] at *; omega))]))
                           rotate_left
                           · simp only [Act.put, List.setIfInBounds_toArray, List.set_cons_zero, List.set_cons_succ, i64_w, i32_w]
                             rfl
                           refine take_ (i := 53) (N := some 58) (v := ?_) (a' := ?_) #[true, true, true, true, true, true, true, true, true, true, true, true, true, true, true, true, true, true, true, true, true, true, true, true, true, true, true, true, true, true, true, true, true, true, true, true, true, true, true, true, true, true, true, true, true, true, true, true, true, true, true, true, true, true, false, false, false, false] rfl rfl (take_ofW HT_.out HW_.out (by kernel_rfl)) (fun _ _ _ h => h) (Or.inl ⟨by rfl, ?_⟩) hHeld ?_ ?_
                           rotate_left
                           · rintro w' ⟨s0, s1, s2, s3, s4, s5, s6, s7, s8, s9, s10, s11⟩
                             go_simp
                             (first | with_reducible rfl | (rw [if_neg (by first | omega | (simp only [ByteArray.size_append] at *; omega) | (have hl_ : ∀ l_ : List UInt8, (⟨l_.toArray⟩ : ByteArray).size = l_.length := (fun l_ => by show l_.toArray.size = _; simp); simp only [ByteArray.size_append, hl_, List.length_cons, List.length_nil] at *; omega))]))
                           rotate_left
                           · simp only [Act.put, List.setIfInBounds_toArray, List.set_cons_zero, List.set_cons_succ, i64_w, i32_w]
                             rfl
                           refine one_ (i := 54) (N := some 59) #[true, true, true, true, true, true, true, true, true, true, true, true, true, true, true, true, true, true, true, true, true, true, true, true, true, true, true, true, true, true, true, true, true, true, true, true, true, true, true, true, true, true, true, true, true, true, true, true, true, true, true, true, true, true, true, false, false, false] rfl rfl (one_of HT_.out (by kernel_rfl)) (by decide) (fun K hK => ?_)
                           refine goes_ Try.func16 (by kernel_rfl) rfl #[.agg #[.string (⟨#[97, 124, 98]⟩ : ByteArray), .int .i64 0, .int .i64 0, .float .f64 0, .bool true, .bool true]] (by rfl) rfl rfl (by (try simp only [List.map_toArray, List.map_cons, List.map_nil]); first | done | rfl | (simp only [List.length_drop, List.length_take]; rfl)) ?_
                           with_reducible refine (rule_Threshold.calls k (⟨#[97, 124, 98]⟩ : ByteArray) 0 0 0 true true t229 _ A44.out).mono ?_
                           rintro e w65 ⟨rfl, hb⟩
                           refine ⟨_, rfl, ?_⟩
                           have n0_ := Aside0.mk (blk_below (g := gb199) (o := .cells #[.string (⟨#[]⟩ : ByteArray), .int .i64 2, .int .i64 10, .float .f64 4605380978949069210, .bool false, .bool false] 24 (0, 0)) (by (with_reducible repeat (first | refine blk_drewN ?_ _ | refine blk_drew ?_ | refine blk_alloc ?_ _)); exact BK199.out) hb)
                           have n1_ := Aside0.mk (blk_below (g := gb200) (o := .cells #[.string (⟨#[97, 124, 98]⟩ : ByteArray), .int .i64 0, .int .i64 0, .float .f64 0, .bool true, .bool true] 24 (0, 0)) (by (with_reducible repeat (first | refine blk_drewN ?_ _ | refine blk_drew ?_ | refine blk_alloc ?_ _)); exact BK200.out) hb)
                           have n2_ := Aside0.mk (below_step (by repeat (first | (with_reducible first | exact HB.out | apply below_alloc | apply pw_below_drewN | apply below_drew1 | refine below_set ?_ GE199.out | refine below_set ?_ GE200.out) | exact HB.out)) hb)
                           clear BK199
                           clear BK200
                           clear HB
                           have BK199 := n0_
                           have BK200 := n1_
                           have HB := n2_
                           clear n0_ n1_ n2_
                           (try clear hb)
                           (try clear hb2)
                           (try clear hk)
                           (try clear hi)
                           refine hK.out _ _ ⟨(blk_cell BK199.out 0).trans rfl, (blk_cell BK199.out 1).trans rfl, (blk_cell BK199.out 2).trans rfl, (blk_cell BK199.out 3).trans rfl, (blk_cell BK199.out 4).trans rfl, (blk_cell BK199.out 5).trans rfl, (blk_cell BK200.out 0).trans rfl, (blk_cell BK200.out 1).trans rfl, (blk_cell BK200.out 2).trans rfl, (blk_cell BK200.out 3).trans rfl, (blk_cell BK200.out 4).trans rfl, (blk_cell BK200.out 5).trans rfl⟩ (fun hHeld => ?_)
                           clear hK K
                           refine norm_ (a' := ?_) ?_ ?_
                           rotate_left
                           · show Act.put _ (some 59) _ = _
                             simp only [Act.put, List.setIfInBounds_toArray, List.set_cons_zero, List.set_cons_succ, i64_w, i32_w]
                             rfl
                           refine pure_ (i := 55) (N := some 60) (v := ?_) (a' := ?_) #[true, true, true, true, true, true, true, true, true, true, true, true, true, true, true, true, true, true, true, true, true, true, true, true, true, true, true, true, true, true, true, true, true, true, true, true, true, true, true, true, true, true, true, true, true, true, true, true, true, true, true, true, true, true, true, true, false, false] rfl rfl (any_of HT_.out (by kernel_rfl)) (fun _ _ _ h => h) (Or.inl ⟨by rfl, ?_⟩) ?_ ?_
                           rotate_left
                           · intro w'
                             go_simp
                             (first | with_reducible rfl | (rw [if_neg (by first | omega | (simp only [ByteArray.size_append] at *; omega) | (have hl_ : ∀ l_ : List UInt8, (⟨l_.toArray⟩ : ByteArray).size = l_.length := (fun l_ => by show l_.toArray.size = _; simp); simp only [ByteArray.size_append, hl_, List.length_cons, List.length_nil] at *; omega))]))
                           rotate_left
                           · simp only [Act.put, List.setIfInBounds_toArray, List.set_cons_zero, List.set_cons_succ, i64_w, i32_w]
                             rfl
                           refine pure_ (i := 56) (N := some 61) (v := ?_) (a' := ?_) #[true, true, true, true, true, true, true, true, true, true, true, true, true, true, true, true, true, true, true, true, true, true, true, true, true, true, true, true, true, true, true, true, true, true, true, true, true, true, true, true, true, true, true, true, true, true, true, true, true, true, true, true, true, true, true, true, true, false] rfl rfl (any_of HT_.out (by kernel_rfl)) (fun _ _ _ h => h) (Or.inl ⟨by rfl, ?_⟩) ?_ ?_
                           rotate_left
                           · intro w'
                             go_simp
                             (first | with_reducible rfl | (rw [if_neg (by first | omega | (simp only [ByteArray.size_append] at *; omega) | (have hl_ : ∀ l_ : List UInt8, (⟨l_.toArray⟩ : ByteArray).size = l_.length := (fun l_ => by show l_.toArray.size = _; simp); simp only [ByteArray.size_append, hl_, List.length_cons, List.length_nil] at *; omega))]))
                           rotate_left
                           · simp only [Act.put, List.setIfInBounds_toArray, List.set_cons_zero, List.set_cons_succ, i64_w, i32_w]
                             rfl
                           refine pure_ (i := 57) (N := some 0) (v := ?_) (a' := ?_) #[true, true, true, true, true, true, true, true, true, true, true, true, true, true, true, true, true, true, true, true, true, true, true, true, true, true, true, true, true, true, true, true, true, true, true, true, true, true, true, true, true, true, true, true, true, true, true, true, true, true, true, true, true, true, true, true, true, true] rfl rfl (any_of HT_.out (by kernel_rfl)) (fun _ _ _ h => h) (Or.inl ⟨by rfl, ?_⟩) ?_ ?_
                           rotate_left
                           · intro w'
                             go_simp
                             (first | with_reducible rfl | (rw [if_neg (by first | omega | (simp only [ByteArray.size_append] at *; omega) | (have hl_ : ∀ l_ : List UInt8, (⟨l_.toArray⟩ : ByteArray).size = l_.length := (fun l_ => by show l_.toArray.size = _; simp); simp only [ByteArray.size_append, hl_, List.length_cons, List.length_nil] at *; omega))]))
                           rotate_left
                           · simp only [Act.put, List.setIfInBounds_toArray, List.set_cons_zero, List.set_cons_succ, i64_w, i32_w]
                             rfl
                           refine done_ (done_of HT_.out (by kernel_rfl)) ?_
                           try go_wp2
                           go_ret
                           exact ⟨by first | rfl | (simp [errW_none, errW_some] <;> rfl) | (simp [*, errW_none, errW_some] <;> rfl), by repeat (first | (with_reducible first | exact HB.out | apply below_alloc | apply pw_below_drewN | apply below_drew1 | refine below_set ?_ GE199.out | refine below_set ?_ GE200.out) | exact HB.out)⟩)
                  · replace c20 := Bool.eq_false_iff.mpr c20
                    subst c20
                    have H1 : (some false) = some r := by rw [if_neg (show ¬ (false = true) by decide)] at H; exact H
                    clear H
                    have H := H1
                    clear H1
                    exact absurd ((Option.some.inj H).trans hr_) (by decide)
                · rw [if_neg c18] at H
                  have c18b0 : (t220 == 1) = false := beq_eq_false_iff_ne.mpr c18
                  have c18b1 : (t220 != 1) = true := bne_iff_ne.mpr c18
                  exact absurd ((Option.some.inj H).trans hr_) (by decide)
              · rw [if_neg c15] at H
                have c15b0 : (t213 == 1) = false := beq_eq_false_iff_ne.mpr c15
                have c15b1 : (t213 != 1) = true := bne_iff_ne.mpr c15
                exact absurd ((Option.some.inj H).trans hr_) (by decide)
            · rw [if_neg c12] at H
              have c12b0 : (t206 == 1) = false := beq_eq_false_iff_ne.mpr c12
              have c12b1 : (t206 != 1) = true := bne_iff_ne.mpr c12
              exact absurd ((Option.some.inj H).trans hr_) (by decide)
          · rw [if_neg c10] at H
            have c10b0 : (t205.toList == ([117, 110, 108, 105, 109, 105, 116, 101, 100, 32, 115, 104, 97, 100, 111, 119, 32, 97, 37, 55, 67, 98] : List UInt8)) = false := beq_eq_false_iff_ne.mpr c10
            have c10b1 : (t205.toList != ([117, 110, 108, 105, 109, 105, 116, 101, 100, 32, 115, 104, 97, 100, 111, 119, 32, 97, 37, 55, 67, 98] : List UInt8)) = true := bne_iff_ne.mpr c10
            exact absurd ((Option.some.inj H).trans hr_) (by decide)
        · rw [if_neg c8] at H
          have c8b0 : (t204 == 0) = false := beq_eq_false_iff_ne.mpr c8
          have c8b1 : (t204 != 0) = true := bne_iff_ne.mpr c8
          exact absurd ((Option.some.inj H).trans hr_) (by decide)
      · rw [if_neg c6] at H
        have c6b0 : (t203.toList == ([49, 48, 32, 112, 101, 114, 32, 109, 105, 110, 117, 116, 101, 32, 110, 101, 97, 114, 32, 48, 46, 56] : List UInt8)) = false := beq_eq_false_iff_ne.mpr c6
        have c6b1 : (t203.toList != ([49, 48, 32, 112, 101, 114, 32, 109, 105, 110, 117, 116, 101, 32, 110, 101, 97, 114, 32, 48, 46, 56] : List UInt8)) = true := bne_iff_ne.mpr c6
        exact absurd ((Option.some.inj H).trans hr_) (by decide)
    · rw [if_neg c4] at H
      have c4b0 : (t202 == 8) = false := beq_eq_false_iff_ne.mpr c4
      have c4b1 : (t202 != 8) = true := bne_iff_ne.mpr c4
      exact absurd ((Option.some.inj H).trans hr_) (by decide)
  · rw [if_neg c2] at H
    have c2b0 : (t201 == 0) = false := beq_eq_false_iff_ne.mpr c2
    have c2b1 : (t201 != 0) = true := bne_iff_ne.mpr c2
    exact absurd ((Option.some.inj H).trans hr_) (by decide)
def turncocklaw16_awake.f (k : Nat) : Option (Bool) := if turncocklaw16_awake.g k = some true then some true else none
theorem turncocklaw16_awake.mono : ∀ k, LeO (turncocklaw16_awake.f k ) (turncocklaw16_awake.f (k + 1) ) := by
  intro k r h
  unfold turncocklaw16_awake.f at h ⊢
  split at h
  · rename_i hg; rw [if_pos (turncocklaw16_awake.gmono k _ hg)]; exact h
  · cases h
theorem turncocklaw16_awake.calls (k : Nat) (r : Bool) (w : World) (h : turncocklaw16_awake.f k = some r) :
    Calls Try.prog 13 #[] w fun e w' => e = .returned (.bool r) ∧ Below w.heap.size w w' := by
  unfold turncocklaw16_awake.f at h
  split at h
  · rename_i hg; obtain rfl := Option.some.inj h; exact turncocklaw16_awake.gcalls k true w hg rfl
  · cases h

end Go.Proofs.Ytofebccpghkmgaa.PRuleChecks
