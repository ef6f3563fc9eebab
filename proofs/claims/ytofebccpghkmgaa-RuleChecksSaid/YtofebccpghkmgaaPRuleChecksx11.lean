-- WRITTEN BY THIS SESSION'S mprint.py upon the print: some functions are proved by hand
import Derived.Test.YtofebccpghkmgaaPRuleChecksx0
import Derived.Test.YtofebccpghkmgaaPRuleChecksx5
import Derived.Test.YtofebccpghkmgaaPRuleChecksx6
import Derived.Test.YtofebccpghkmgaaPRuleChecksx8
import Derived.Test.YtofebccpghkmgaaPRuleChecksx9
import Derived.Test.YtofebccpghkmgaaPRuleChecksx10
namespace Go.Proofs.Ytofebccpghkmgaa.PRuleChecks
open Go.RowKit Go.Proofs.YtofebccpghkmgaaW.PrintWords Go.Proofs.YtofebccpghkmgaaW.PrintLast Go.Proofs.YtofebccpghkmgaaW.PrintMore
attribute [local go_sem] max2_int min2_int max_two min_two max_three min_three max_four min_four   -- for this text's walks alone
set_option linter.unusedVariables false
set_option linter.unusedSimpArgs false

/-! ### turncockref1_letter: function 71 -/
theorem blk_facts6_x11 {w : World} {g : Nat} {t : TypeId} {a0 a1 a2 a3 a4 a5 : Value} (h : w.heap[g]? = some (.cells #[a0, a1, a2, a3, a4, a5] t (0, 0))) : w.cell? ⟨g, 0, none⟩ = some a0 ∧ w.cell? ⟨g, 1, none⟩ = some a1 ∧ w.cell? ⟨g, 2, none⟩ = some a2 ∧ w.cell? ⟨g, 3, none⟩ = some a3 ∧ w.cell? ⟨g, 4, none⟩ = some a4 ∧ w.cell? ⟨g, 5, none⟩ = some a5 ∧ w.frozen? ⟨g, 0, none⟩ = false ∧ w.frozen? ⟨g, 1, none⟩ = false ∧ w.frozen? ⟨g, 2, none⟩ = false ∧ w.frozen? ⟨g, 3, none⟩ = false ∧ w.frozen? ⟨g, 4, none⟩ = false ∧ w.frozen? ⟨g, 5, none⟩ = false := ⟨(blk_cell h 0).trans rfl, (blk_cell h 1).trans rfl, (blk_cell h 2).trans rfl, (blk_cell h 3).trans rfl, (blk_cell h 4).trans rfl, (blk_cell h 5).trans rfl, blk_frozen h 0, blk_frozen h 1, blk_frozen h 2, blk_frozen h 3, blk_frozen h 4, blk_frozen h 5⟩
def turncockref1_letter.f (a0 : Int) : Option (Bool) := if a0 ≥ 97 then (if a0 ≤ 122 then (some true) else (if a0 ≥ 65 then (some (decide (a0 ≤ 90))) else (some false))) else (if a0 ≥ 65 then (some (decide (a0 ≤ 90))) else (some false))
set_option maxHeartbeats 8000000 in
set_option maxRecDepth 100000 in
theorem turncockref1_letter.calls (a0 : Int) (r : Bool) (w : World) (h : turncockref1_letter.f a0 = some r) :
    Calls Try.prog 71 #[.int .u8 a0] w fun e w' => e = .returned (.bool r) ∧ Drawn0 w w' := by
  have H : (if a0 ≥ 97 then (if a0 ≤ 122 then (some true) else (if a0 ≥ 65 then (some (decide (a0 ≤ 90))) else (some false))) else (if a0 ≥ 65 then (some (decide (a0 ≤ 90))) else (some false))) = some r := h
  clear h
  by_cases c2 : a0 ≥ 97
  · rw [if_pos c2] at H
    have c2b0 : decide (97 ≤ a0) = true := decide_eq_true c2
    clear c2
    by_cases c3 : a0 ≤ 122
    · rw [if_pos c3] at H
      have c3b0 : decide (a0 ≤ 122) = true := decide_eq_true c3
      clear c3
      obtain rfl := Option.some.inj H
      go_enter Try.func71, Try.ntmps71
      go_wp2
      go_ret
      exact ⟨by first | rfl | (simp; done) | (simp [*]; done), by repeat (first | exact Drawn0.refl _ | apply Drawn0.step)⟩
    · rw [if_neg c3] at H
      have c3b0 : decide (a0 ≤ 122) = false := decide_eq_false c3
      clear c3
      by_cases c4 : a0 ≥ 65
      · rw [if_pos c4] at H
        have c4b0 : decide (65 ≤ a0) = true := decide_eq_true c4
        clear c4
        obtain rfl := Option.some.inj H
        go_enter Try.func71, Try.ntmps71
        go_wp2
        go_ret
        exact ⟨by first | rfl | (simp; done) | (simp [*]; done), by repeat (first | exact Drawn0.refl _ | apply Drawn0.step)⟩
      · rw [if_neg c4] at H
        have c4b0 : decide (65 ≤ a0) = false := decide_eq_false c4
        clear c4
        obtain rfl := Option.some.inj H
        go_enter Try.func71, Try.ntmps71
        go_wp2
        go_ret
        exact ⟨by first | rfl | (simp; done) | (simp [*]; done), by repeat (first | exact Drawn0.refl _ | apply Drawn0.step)⟩
  · rw [if_neg c2] at H
    have c2b0 : decide (97 ≤ a0) = false := decide_eq_false c2
    clear c2
    by_cases c5 : a0 ≥ 65
    · rw [if_pos c5] at H
      have c5b0 : decide (65 ≤ a0) = true := decide_eq_true c5
      clear c5
      obtain rfl := Option.some.inj H
      go_enter Try.func71, Try.ntmps71
      go_wp2
      go_ret
      exact ⟨by first | rfl | (simp; done) | (simp [*]; done), by repeat (first | exact Drawn0.refl _ | apply Drawn0.step)⟩
    · rw [if_neg c5] at H
      have c5b0 : decide (65 ≤ a0) = false := decide_eq_false c5
      clear c5
      obtain rfl := Option.some.inj H
      go_enter Try.func71, Try.ntmps71
      go_wp2
      go_ret
      exact ⟨by first | rfl | (simp; done) | (simp [*]; done), by repeat (first | exact Drawn0.refl _ | apply Drawn0.step)⟩

/-! ### turncockref1_digit: function 72 -/
def turncockref1_digit.f (a0 : Int) : Option (Bool) := if a0 ≥ 48 then (some (decide (a0 ≤ 57))) else (some false)
set_option maxHeartbeats 8000000 in
set_option maxRecDepth 100000 in
theorem turncockref1_digit.calls (a0 : Int) (r : Bool) (w : World) (h : turncockref1_digit.f a0 = some r) :
    Calls Try.prog 72 #[.int .u8 a0] w fun e w' => e = .returned (.bool r) ∧ Drawn0 w w' := by
  have H : (if a0 ≥ 48 then (some (decide (a0 ≤ 57))) else (some false)) = some r := h
  clear h
  by_cases c2 : a0 ≥ 48
  · rw [if_pos c2] at H
    have c2b0 : decide (48 ≤ a0) = true := decide_eq_true c2
    clear c2
    obtain rfl := Option.some.inj H
    go_enter Try.func72, Try.ntmps72
    go_wp2
    go_ret
    exact ⟨by first | rfl | (simp; done) | (simp [*]; done), by repeat (first | exact Drawn0.refl _ | apply Drawn0.step)⟩
  · rw [if_neg c2] at H
    have c2b0 : decide (48 ≤ a0) = false := decide_eq_false c2
    clear c2
    obtain rfl := Option.some.inj H
    go_enter Try.func72, Try.ntmps72
    go_wp2
    go_ret
    exact ⟨by first | rfl | (simp; done) | (simp [*]; done), by repeat (first | exact Drawn0.refl _ | apply Drawn0.step)⟩

/-! ### turncockref1_Escape: function 46 (my own) -/
theorem turncockref1_Escape.letter (c : Int) : turncockref1_letter.f c = some (decide ((97 ≤ c ∧ c ≤ 122) ∨ (65 ≤ c ∧ c ≤ 90))) := by
  unfold turncockref1_letter.f
  by_cases h1 : c ≥ 97 <;> by_cases h2 : c ≤ 122 <;> by_cases h3 : c ≥ 65 <;> by_cases h4 : c ≤ 90 <;> simp [h1, h2, h3, h4] <;> omega
theorem turncockref1_Escape.digit (c : Int) : turncockref1_digit.f c = some (decide (48 ≤ c ∧ c ≤ 57)) := by
  unfold turncockref1_digit.f
  by_cases h1 : c ≥ 48 <;> by_cases h2 : c ≤ 57 <;> simp [h1, h2] <;> omega
theorem turncockref1_Escape.self_iff (c : UInt8) : desc_itself.self (c.toNat : Int) = decide (((97 ≤ c.toNat ∧ c.toNat ≤ 122) ∨ (65 ≤ c.toNat ∧ c.toNat ≤ 90)) ∨ (48 ≤ c.toNat ∧ c.toNat ≤ 57) ∨ c.toNat = 45 ∨ c.toNat = 95 ∨ c.toNat = 46 ∨ c.toNat = 47 ∨ c.toNat = 58) := by
  have h : ∀ n : Fin 256, desc_itself.self (n.val : Int) = decide (((97 ≤ n.val ∧ n.val ≤ 122) ∨ (65 ≤ n.val ∧ n.val ≤ 90)) ∨ (48 ≤ n.val ∧ n.val ≤ 57) ∨ n.val = 45 ∨ n.val = 95 ∨ n.val = 46 ∨ n.val = 47 ∨ n.val = 58) := by decide +kernel
  exact h ⟨c.toNat, c.toNat_lt⟩
theorem turncockref1_Escape.cut_one (s : ByteArray) (i : Nat) (h : i < s.size) : s.extract i (i + 1) = ⟨#[s[i]]⟩ := by
  apply ByteArray.ext
  apply Array.toList_inj.1
  rw [Lib.extract_data, List.drop_eq_getElem_cons (by simpa using h), show i + 1 - i = 1 from by omega]
  rfl
theorem turncockref1_Escape.app (l m : List UInt8) : (⟨l.toArray⟩ : ByteArray) ++ ⟨m.toArray⟩ = ⟨(l ++ m).toArray⟩ := by
  apply ByteArray.ext
  simp [ByteArray.data_append]
def turncockref1_Escape.f (a0 : ByteArray) : Option (ByteArray) := if a0.size ≤ 1099511627776 then some ⟨(desc_Escape.all a0.data.toList).toArray⟩ else none
set_option maxHeartbeats 2000000 in
set_option maxRecDepth 100000 in
theorem turncockref1_Escape.calls (s : ByteArray) (r : ByteArray) (w : World) (h : turncockref1_Escape.f s = some r) :
    Calls Try.prog 46 #[.string s] w fun e w' => e = .returned (.string r) ∧ Drawn0 w w' := by
  unfold turncockref1_Escape.f at h
  split at h
  · rename_i hs
    obtain rfl := Option.some.inj h
    clear h
    go_enter Try.func46, Try.ntmps46
    go_wp2
    go_loopw [3, 4] (fun v3 v4 wr => ∃ (k : Nat) (o : ByteArray), v3 = .string o ∧ v4 = .int .i64 k ∧ k ≤ s.size ∧ o.size ≤ 3 * k ∧ Aside0 (o = ⟨(desc_Escape.all (s.data.toList.take k)).toArray⟩) ∧ Aside0 (Drawn0 w wr)) (fun _ v4 _ => s.size - (intOf v4).toNat)
    case atStart => exact ⟨0, ⟨#[]⟩, rfl, rfl, Nat.zero_le _, Nat.le_refl _, ⟨rfl⟩, ⟨Drawn0.refl _⟩⟩
    case round =>
      obtain ⟨k, o, rfl, rfl, hk, ho, HO, HW⟩ := hrel
      by_cases hlt : k < s.size
      · have HT := Aside0.mk (desc_Escape.take_snoc s k hlt)
        have hc1 : s[k].toNat < 256 := s[k].toNat_lt
        have hself := turncockref1_Escape.self_iff s[k]
        have g1 : (0 : Int) ≤ (k : Int) := by omega
        have g2 : (k : Int) ≤ (k : Int) + 1 := by omega
        have g3 : (k : Int) + 1 ≤ (s.size : Int) := by omega
        have g4 : ((k : Int) + 1).toNat = k + 1 := by omega
        have g5 : IntKind.i64.wrap ((k : Int) + 1) = (k : Int) + 1 := by rw [IntKind.wrap_i64]; omega
        have g6 : k + 1 ≤ s.size := by omega
        have g7 : k ≤ k + 1 := by omega
        have x0 := turncockref1_Escape.cut_one s k hlt
        have y0 : (⟨#[s[k]]⟩ : ByteArray).size = 1 := rfl
        have y1 : o.size + 1 ≤ 9223372036854775807 := by omega
        by_cases hL : ((97 ≤ s[k].toNat ∧ s[k].toNat ≤ 122) ∨ (65 ≤ s[k].toNat ∧ s[k].toNat ≤ 90))
        · have HL : Aside0 (decide ((97 ≤ (s[k].toNat : Int) ∧ (s[k].toNat : Int) ≤ 122) ∨ (65 ≤ (s[k].toNat : Int) ∧ (s[k].toNat : Int) ≤ 90)) = true) := ⟨decide_eq_true (by omega)⟩
          have HG : Aside0 (decide (48 ≤ (s[k].toNat : Int) ∧ (s[k].toNat : Int) ≤ 57) = false) := ⟨decide_eq_false (by omega)⟩
          have HX : Aside0 (desc_Escape.one s[k] = [s[k]]) := ⟨by unfold desc_Escape.one; rw [hself, if_pos (decide_eq_true (by omega))]⟩
          clear hL hself
          go_wp2_with (first | (go_at_call 71; (with_reducible refine (turncockref1_letter.calls _ true _ (by rw [turncockref1_Escape.letter]; exact congrArg some HL.out)).mono ?_); rintro e w' ⟨rfl, ⟨nd, rfl⟩⟩) | (go_at_call 72; (with_reducible refine (turncockref1_digit.calls _ false _ (by rw [turncockref1_Escape.digit]; exact congrArg some HG.out)).mono ?_); rintro e w' ⟨rfl, ⟨nd2, rfl⟩⟩))
          go_roundw
          case rel =>
            refine ⟨k + 1, o ++ ⟨#[s[k]]⟩, rfl, by go_num, by omega, by rw [ByteArray.size_append, y0]; omega, ⟨?_⟩, ⟨by repeat (first | exact HW.out | apply Drawn0.step)⟩⟩
            rw [HT.out, desc_Escape.all_snoc, HX.out, HO.out]
            exact turncockref1_Escape.app _ _
          case measure => simp [intOf]; omega
        · have HL : Aside0 (decide ((97 ≤ (s[k].toNat : Int) ∧ (s[k].toNat : Int) ≤ 122) ∨ (65 ≤ (s[k].toNat : Int) ∧ (s[k].toNat : Int) ≤ 90)) = false) := ⟨decide_eq_false (by omega)⟩
          by_cases hG : 48 ≤ s[k].toNat ∧ s[k].toNat ≤ 57
          · have HG : Aside0 (decide (48 ≤ (s[k].toNat : Int) ∧ (s[k].toNat : Int) ≤ 57) = true) := ⟨decide_eq_true (by omega)⟩
            have HX : Aside0 (desc_Escape.one s[k] = [s[k]]) := ⟨by unfold desc_Escape.one; rw [hself, if_pos (decide_eq_true (by omega))]⟩
            clear hL hG hself
            go_wp2_with (first | (go_at_call 71; (with_reducible refine (turncockref1_letter.calls _ false _ (by rw [turncockref1_Escape.letter]; exact congrArg some HL.out)).mono ?_); rintro e w' ⟨rfl, ⟨nd, rfl⟩⟩) | (go_at_call 72; (with_reducible refine (turncockref1_digit.calls _ true _ (by rw [turncockref1_Escape.digit]; exact congrArg some HG.out)).mono ?_); rintro e w' ⟨rfl, ⟨nd2, rfl⟩⟩))
            go_roundw
            case rel =>
              refine ⟨k + 1, o ++ ⟨#[s[k]]⟩, rfl, by go_num, by omega, by rw [ByteArray.size_append, y0]; omega, ⟨?_⟩, ⟨by repeat (first | exact HW.out | apply Drawn0.step)⟩⟩
              rw [HT.out, desc_Escape.all_snoc, HX.out, HO.out]
              exact turncockref1_Escape.app _ _
            case measure => simp [intOf]; omega
          · have HG : Aside0 (decide (48 ≤ (s[k].toNat : Int) ∧ (s[k].toNat : Int) ≤ 57) = false) := ⟨decide_eq_false (by omega)⟩
            by_cases h45 : s[k].toNat = 45
            · have e45 : ((s[k].toNat : Int) == 45) = true := beq_iff_eq.2 (by omega)
              have HX : Aside0 (desc_Escape.one s[k] = [s[k]]) := ⟨by unfold desc_Escape.one; rw [hself, if_pos (decide_eq_true (by omega))]⟩
              clear hL hG hself h45
              go_wp2_with (first | (go_at_call 71; (with_reducible refine (turncockref1_letter.calls _ false _ (by rw [turncockref1_Escape.letter]; exact congrArg some HL.out)).mono ?_); rintro e w' ⟨rfl, ⟨nd, rfl⟩⟩) | (go_at_call 72; (with_reducible refine (turncockref1_digit.calls _ false _ (by rw [turncockref1_Escape.digit]; exact congrArg some HG.out)).mono ?_); rintro e w' ⟨rfl, ⟨nd2, rfl⟩⟩))
              go_roundw
              case rel =>
                refine ⟨k + 1, o ++ ⟨#[s[k]]⟩, rfl, by go_num, by omega, by rw [ByteArray.size_append, y0]; omega, ⟨?_⟩, ⟨by repeat (first | exact HW.out | apply Drawn0.step)⟩⟩
                rw [HT.out, desc_Escape.all_snoc, HX.out, HO.out]
                exact turncockref1_Escape.app _ _
              case measure => simp [intOf]; omega
            · have e45 : ((s[k].toNat : Int) == 45) = false := beq_eq_false_iff_ne.2 (by omega)
              by_cases h95 : s[k].toNat = 95
              · have e95 : ((s[k].toNat : Int) == 95) = true := beq_iff_eq.2 (by omega)
                have HX : Aside0 (desc_Escape.one s[k] = [s[k]]) := ⟨by unfold desc_Escape.one; rw [hself, if_pos (decide_eq_true (by omega))]⟩
                clear hL hG hself h45 h95
                go_wp2_with (first | (go_at_call 71; (with_reducible refine (turncockref1_letter.calls _ false _ (by rw [turncockref1_Escape.letter]; exact congrArg some HL.out)).mono ?_); rintro e w' ⟨rfl, ⟨nd, rfl⟩⟩) | (go_at_call 72; (with_reducible refine (turncockref1_digit.calls _ false _ (by rw [turncockref1_Escape.digit]; exact congrArg some HG.out)).mono ?_); rintro e w' ⟨rfl, ⟨nd2, rfl⟩⟩))
                go_roundw
                case rel =>
                  refine ⟨k + 1, o ++ ⟨#[s[k]]⟩, rfl, by go_num, by omega, by rw [ByteArray.size_append, y0]; omega, ⟨?_⟩, ⟨by repeat (first | exact HW.out | apply Drawn0.step)⟩⟩
                  rw [HT.out, desc_Escape.all_snoc, HX.out, HO.out]
                  exact turncockref1_Escape.app _ _
                case measure => simp [intOf]; omega
              · have e95 : ((s[k].toNat : Int) == 95) = false := beq_eq_false_iff_ne.2 (by omega)
                by_cases h46 : s[k].toNat = 46
                · have e46 : ((s[k].toNat : Int) == 46) = true := beq_iff_eq.2 (by omega)
                  have HX : Aside0 (desc_Escape.one s[k] = [s[k]]) := ⟨by unfold desc_Escape.one; rw [hself, if_pos (decide_eq_true (by omega))]⟩
                  clear hL hG hself h45 h95 h46
                  go_wp2_with (first | (go_at_call 71; (with_reducible refine (turncockref1_letter.calls _ false _ (by rw [turncockref1_Escape.letter]; exact congrArg some HL.out)).mono ?_); rintro e w' ⟨rfl, ⟨nd, rfl⟩⟩) | (go_at_call 72; (with_reducible refine (turncockref1_digit.calls _ false _ (by rw [turncockref1_Escape.digit]; exact congrArg some HG.out)).mono ?_); rintro e w' ⟨rfl, ⟨nd2, rfl⟩⟩))
                  go_roundw
                  case rel =>
                    refine ⟨k + 1, o ++ ⟨#[s[k]]⟩, rfl, by go_num, by omega, by rw [ByteArray.size_append, y0]; omega, ⟨?_⟩, ⟨by repeat (first | exact HW.out | apply Drawn0.step)⟩⟩
                    rw [HT.out, desc_Escape.all_snoc, HX.out, HO.out]
                    exact turncockref1_Escape.app _ _
                  case measure => simp [intOf]; omega
                · have e46 : ((s[k].toNat : Int) == 46) = false := beq_eq_false_iff_ne.2 (by omega)
                  by_cases h47 : s[k].toNat = 47
                  · have e47 : ((s[k].toNat : Int) == 47) = true := beq_iff_eq.2 (by omega)
                    have HX : Aside0 (desc_Escape.one s[k] = [s[k]]) := ⟨by unfold desc_Escape.one; rw [hself, if_pos (decide_eq_true (by omega))]⟩
                    clear hL hG hself h45 h95 h46 h47
                    go_wp2_with (first | (go_at_call 71; (with_reducible refine (turncockref1_letter.calls _ false _ (by rw [turncockref1_Escape.letter]; exact congrArg some HL.out)).mono ?_); rintro e w' ⟨rfl, ⟨nd, rfl⟩⟩) | (go_at_call 72; (with_reducible refine (turncockref1_digit.calls _ false _ (by rw [turncockref1_Escape.digit]; exact congrArg some HG.out)).mono ?_); rintro e w' ⟨rfl, ⟨nd2, rfl⟩⟩))
                    go_roundw
                    case rel =>
                      refine ⟨k + 1, o ++ ⟨#[s[k]]⟩, rfl, by go_num, by omega, by rw [ByteArray.size_append, y0]; omega, ⟨?_⟩, ⟨by repeat (first | exact HW.out | apply Drawn0.step)⟩⟩
                      rw [HT.out, desc_Escape.all_snoc, HX.out, HO.out]
                      exact turncockref1_Escape.app _ _
                    case measure => simp [intOf]; omega
                  · have e47 : ((s[k].toNat : Int) == 47) = false := beq_eq_false_iff_ne.2 (by omega)
                    by_cases h58 : s[k].toNat = 58
                    · have e58 : ((s[k].toNat : Int) == 58) = true := beq_iff_eq.2 (by omega)
                      have HX : Aside0 (desc_Escape.one s[k] = [s[k]]) := ⟨by unfold desc_Escape.one; rw [hself, if_pos (decide_eq_true (by omega))]⟩
                      clear hL hG hself h45 h95 h46 h47 h58
                      go_wp2_with (first | (go_at_call 71; (with_reducible refine (turncockref1_letter.calls _ false _ (by rw [turncockref1_Escape.letter]; exact congrArg some HL.out)).mono ?_); rintro e w' ⟨rfl, ⟨nd, rfl⟩⟩) | (go_at_call 72; (with_reducible refine (turncockref1_digit.calls _ false _ (by rw [turncockref1_Escape.digit]; exact congrArg some HG.out)).mono ?_); rintro e w' ⟨rfl, ⟨nd2, rfl⟩⟩))
                      go_roundw
                      case rel =>
                        refine ⟨k + 1, o ++ ⟨#[s[k]]⟩, rfl, by go_num, by omega, by rw [ByteArray.size_append, y0]; omega, ⟨?_⟩, ⟨by repeat (first | exact HW.out | apply Drawn0.step)⟩⟩
                        rw [HT.out, desc_Escape.all_snoc, HX.out, HO.out]
                        exact turncockref1_Escape.app _ _
                      case measure => simp [intOf]; omega
                    · have e58 : ((s[k].toNat : Int) == 58) = false := beq_eq_false_iff_ne.2 (by omega)
                      have HX : Aside0 (desc_Escape.one s[k] = [37, desc_Escape.HEX.getD (s[k].toNat / 16) 0, desc_Escape.HEX.getD (s[k].toNat % 16) 0]) := ⟨by unfold desc_Escape.one; rw [hself, if_neg (by simp; omega)]⟩
                      clear hL hG hself h45 h95 h46 h47 h58
                      have f0 : (0 : Int) ≤ (s[k].toNat : Int) / 16 := by omega
                      have f1 : (s[k].toNat : Int) / 16 + 1 ≤ 16 := by omega
                      have f1a : (s[k].toNat : Int) / 16 ≤ 16 := by omega
                      have f1b : (s[k].toNat : Int) / 16 ≤ (s[k].toNat : Int) / 16 + 1 := by omega
                      have f2 : (0 : Int) ≤ (s[k].toNat : Int) % 16 := by omega
                      have f3 : (s[k].toNat : Int) % 16 + 1 ≤ 16 := by omega
                      have f3b : (s[k].toNat : Int) % 16 ≤ (s[k].toNat : Int) % 16 + 1 := by omega
                      have f4 : (0 : Int) ≤ (s[k].toNat : Int) / 16 + 1 := by omega
                      have f5 : (0 : Int) ≤ (s[k].toNat : Int) % 16 + 1 := by omega
                      have f6 : (s[k].toNat : Int) % 16 ≤ 16 := by omega
                      have w0 : IntKind.u8.wrap (Int.tdiv (s[k].toNat : Int) 16) = (s[k].toNat : Int) / 16 := by rw [IntKind.wrap_u8, Int.tdiv_eq_ediv_of_nonneg (by omega)]; omega
                      have w0a : IntKind.u8.wrap ((s[k].toNat : Int) / 16) = (s[k].toNat : Int) / 16 := by rw [IntKind.wrap_u8]; omega
                      have w0b : Int.tmod (s[k].toNat : Int) 16 = (s[k].toNat : Int) % 16 := by rw [Int.tmod_eq_emod_of_nonneg (by omega)]
                      have w0c : IntKind.u8.wrap ((s[k].toNat : Int) % 16) = (s[k].toNat : Int) % 16 := by rw [IntKind.wrap_u8]; omega
                      have w1 : IntKind.u8.wrap ((s[k].toNat : Int) / 16 + 1) = (s[k].toNat : Int) / 16 + 1 := by rw [IntKind.wrap_u8]; omega
                      have w2 : IntKind.u8.wrap ((s[k].toNat : Int) % 16 + 1) = (s[k].toNat : Int) % 16 + 1 := by rw [IntKind.wrap_u8]; omega
                      have w3 : ((s[k].toNat : Int) / 16).toNat = s[k].toNat / 16 := by omega
                      have w4 : ((s[k].toNat : Int) / 16 + 1).toNat = s[k].toNat / 16 + 1 := by omega
                      have w5 : ((s[k].toNat : Int) % 16).toNat = s[k].toNat % 16 := by omega
                      have w6 : ((s[k].toNat : Int) % 16 + 1).toNat = s[k].toNat % 16 + 1 := by omega
                      have x1 := desc_Escape.hexcut ⟨s[k].toNat / 16, by omega⟩
                      have x2 := desc_Escape.hexcut ⟨s[k].toNat % 16, by omega⟩
                      simp only [] at x1 x2
                      generalize desc_Escape.HEX.getD (s[k].toNat / 16) 0 = b1 at x1 HX
                      generalize desc_Escape.HEX.getD (s[k].toNat % 16) 0 = b2 at x2 HX
                      have z1 : (⟨#[37]⟩ : ByteArray).size = 1 := rfl
                      have z2 : (⟨#[b1]⟩ : ByteArray).size = 1 := rfl
                      have z3 : (⟨#[b2]⟩ : ByteArray).size = 1 := rfl
                      have z7 : o.size + 1 + 1 ≤ 9223372036854775807 := by omega
                      have z8 : o.size + 1 + 1 + 1 ≤ 9223372036854775807 := by omega
                      go_wp2_with (first | (go_at_call 71; (with_reducible refine (turncockref1_letter.calls _ false _ (by rw [turncockref1_Escape.letter]; exact congrArg some HL.out)).mono ?_); rintro e w' ⟨rfl, ⟨nd, rfl⟩⟩) | (go_at_call 72; (with_reducible refine (turncockref1_digit.calls _ false _ (by rw [turncockref1_Escape.digit]; exact congrArg some HG.out)).mono ?_); rintro e w' ⟨rfl, ⟨nd2, rfl⟩⟩))
                      go_quiet (fail)
                      go_wp2
                      go_roundw
                      case rel =>
                        refine ⟨k + 1, o ++ ⟨#[37]⟩ ++ ⟨#[b1]⟩ ++ ⟨#[b2]⟩, rfl, by go_num, by omega, by rw [ByteArray.size_append, ByteArray.size_append, ByteArray.size_append, z1, z2, z3]; omega, ⟨?_⟩, ⟨by repeat (first | exact HW.out | apply Drawn0.step)⟩⟩
                        rw [HT.out, desc_Escape.all_snoc, HX.out, HO.out]
                        rw [show (⟨#[37]⟩ : ByteArray) = ⟨[(37 : UInt8)].toArray⟩ from rfl, show (⟨#[b1]⟩ : ByteArray) = ⟨[b1].toArray⟩ from rfl, show (⟨#[b2]⟩ : ByteArray) = ⟨[b2].toArray⟩ from rfl, turncockref1_Escape.app, turncockref1_Escape.app, turncockref1_Escape.app, List.append_assoc, List.append_assoc]
                        rfl
                      case measure => simp [intOf]; omega
      · have e : s.data.toList.take k = s.data.toList := List.take_of_length_le (by simp; omega)
        rw [e] at HO
        clear e
        go_wp2
        go_ret
        exact ⟨by rw [← HO.out]; rfl, by repeat (first | exact HW.out | apply Drawn0.step)⟩
  · cases h

/-! ### turncockref15_RuleText: function 19 -/
def turncockref15_RuleText.j0 : Nat → ByteArray → ByteArray → Int → Int → Nat → Bool → Bool → Option (ByteArray)
  | 0, _, _, _, _, _, _, _ => none
  | k + 1, x3, x269000, x269001, x269002, x269003, x269004, x269005 => if x269004 = true then (if x3.size + 7 ≤ 9223372036854775807 then (if x269000.toList = ([] : List UInt8) then (some (x3 ++ (⟨#[32, 115, 104, 97, 100, 111, 119]⟩ : ByteArray))) else (if x3.size + 7 + 1 ≤ 9223372036854775807 then ((turncockref1_Escape.f x269000).bind fun t274 => (if x3.size + 7 + 1 + t274.size ≤ 9223372036854775807 then (some (((x3 ++ (⟨#[32, 115, 104, 97, 100, 111, 119]⟩ : ByteArray)) ++ (⟨#[32]⟩ : ByteArray)) ++ t274)) else (none))) else (none))) else (none)) else (if x269000.toList = ([] : List UInt8) then (some x3) else (if x3.size + 1 ≤ 9223372036854775807 then ((turncockref1_Escape.f x269000).bind fun t275 => (if x3.size + 1 + t275.size ≤ 9223372036854775807 then (some ((x3 ++ (⟨#[32]⟩ : ByteArray)) ++ t275)) else (none))) else (none)))
def turncockref15_RuleText.f (k : Nat) (a0_0 : ByteArray) (a0_1 : Int) (a0_2 : Int) (a0_3 : Nat) (a0_4 : Bool) (a0_5 : Bool) : Option (ByteArray) := (turncockref15_CheckRule.f k a0_0 a0_1 a0_2 a0_3 a0_4 a0_5).bind fun t269 => (if t269 = true then (if a0_5 = true then (turncockref15_RuleText.j0 k (⟨#[117, 110, 108, 105, 109, 105, 116, 101, 100]⟩ : ByteArray) a0_0 a0_1 a0_2 a0_3 a0_4 a0_5) else ((turncockref1_Write.f k a0_3).bind fun bt270 => ((turncockref1_Digits.f k a0_2).bind fun t272 => (if t272.size + 5 ≤ 9223372036854775807 then ((turncockref15_Unit.f a0_1).bind fun t273 => (if t272.size + 5 + t273.size ≤ 9223372036854775807 then (if t272.size + 5 + t273.size + 6 ≤ 9223372036854775807 then (if t272.size + 5 + t273.size + 6 + bt270.1.size ≤ 9223372036854775807 then (turncockref15_RuleText.j0 k ((((t272 ++ (⟨#[32, 112, 101, 114, 32]⟩ : ByteArray)) ++ t273) ++ (⟨#[32, 110, 101, 97, 114, 32]⟩ : ByteArray)) ++ bt270.1) a0_0 a0_1 a0_2 a0_3 a0_4 a0_5) else (none)) else (none)) else (none))) else (none))))) else (some (⟨#[]⟩ : ByteArray)))
theorem turncockref15_RuleText.mono_l : ∀ k, (∀ y0 y1 y2 y3 y4 y5 y6, LeO (turncockref15_RuleText.j0 k y0 y1 y2 y3 y4 y5 y6) (turncockref15_RuleText.j0 (k + 1) y0 y1 y2 y3 y4 y5 y6))
  | 0 => fun _ _ _ _ _ _ _ r h => by simp [turncockref15_RuleText.j0] at h
  | k + 1 => by
    have ih0 := turncockref15_RuleText.mono_l k
    · intro y0 y1 y2 y3 y4 y5 y6
      unfold turncockref15_RuleText.j0
      repeat' first
      | (with_reducible exact ih0 _ _ _ _ _ _ _)
      | (with_reducible exact turncockref15_CheckRule.mono _ _ _ _ _ _ _)
      | (with_reducible exact turncockref1_Digits.mono _ _)
      | (with_reducible exact turncockref1_Write.mono _ _)
      | (with_reducible exact LeO.refl _)
      | (with_reducible exact LeO.none _)
      | (with_reducible refine LeO.ite ?_ ?_)
      | (with_reducible refine LeO.bind ?_ (fun _ => ?_))
      | exact ih0 _ _ _ _ _ _ _
      | exact turncockref15_CheckRule.mono _ _ _ _ _ _ _
      | exact turncockref1_Digits.mono _ _
      | exact turncockref1_Write.mono _ _
      | exact LeO.none _
      | refine LeO.ite ?_ ?_
      | refine LeO.bind ?_ (fun _ => ?_)
theorem turncockref15_RuleText.mono : ∀ a0 a1 a2 a3 a4 a5 k, LeO (turncockref15_RuleText.f k a0 a1 a2 a3 a4 a5) (turncockref15_RuleText.f (k + 1) a0 a1 a2 a3 a4 a5) := by
  intro a0 a1 a2 a3 a4 a5 k
  have ih0 := turncockref15_RuleText.mono_l k
  unfold turncockref15_RuleText.f
  repeat' first
      | (with_reducible exact ih0 _ _ _ _ _ _ _)
      | (with_reducible exact turncockref15_CheckRule.mono _ _ _ _ _ _ _)
      | (with_reducible exact turncockref1_Digits.mono _ _)
      | (with_reducible exact turncockref1_Write.mono _ _)
      | (with_reducible exact LeO.refl _)
      | (with_reducible exact LeO.none _)
      | (with_reducible refine LeO.ite ?_ ?_)
      | (with_reducible refine LeO.bind ?_ (fun _ => ?_))
      | exact ih0 _ _ _ _ _ _ _
      | exact turncockref15_CheckRule.mono _ _ _ _ _ _ _
      | exact turncockref1_Digits.mono _ _
      | exact turncockref1_Write.mono _ _
      | exact LeO.none _
      | refine LeO.ite ?_ ?_
      | refine LeO.bind ?_ (fun _ => ?_)
def turncockref15_RuleText.T6 : Bool × List (List Nat × List Nat) := (true, [([], []), ([0], [0]), ([1], [1]), ([2], [2]), ([], []), ([4], [4]), ([5, 2], [5]), ([3, 6], [3, 6]), ([7], [7]), ([], []), ([8, 9], [8, 9]), ([10, 6, 0, 1, 2, 3, 4, 5, 6, 7, 8, 9, 10], [10])])
def turncockref15_RuleText.B6 : List Nat := [0, 1, 3, 7, 0, 16, 55, 127, 255, 0, 1023, 2047]
theorem turncockref15_RuleText.tab6 : rtab .any (opsOf Try.f19 6) = turncockref15_RuleText.T6 := by kernel_rfl
theorem turncockref15_RuleText.bits6 : waitsOk turncockref15_RuleText.T6.2 turncockref15_RuleText.B6 = true := by kernel_rfl
set_option maxHeartbeats 8000000 in
set_option maxRecDepth 100000 in
theorem turncockref15_RuleText.calls (k : Nat) (a0_0 : ByteArray) (a0_1 : Int) (a0_2 : Int) (a0_3 : Nat) (a0_4 : Bool) (a0_5 : Bool) (r : ByteArray) (w : World) (h : turncockref15_RuleText.f k a0_0 a0_1 a0_2 a0_3 a0_4 a0_5 = some r) :
    Calls Try.prog 19 #[.agg #[.string a0_0, .int .i64 a0_1, .int .i64 a0_2, .float .f64 a0_3, .bool a0_4, .bool a0_5]] w fun e w' => e = .returned (.string r) ∧ Below w.heap.size w w' := by
  have hu24 := Try.underlying24
  have HB := Aside0.mk (Below.refl w.heap.size w)
  have H : ((turncockref15_CheckRule.f k a0_0 a0_1 a0_2 a0_3 a0_4 a0_5).bind fun t269 => (if t269 = true then (if a0_5 = true then (turncockref15_RuleText.j0 k (⟨#[117, 110, 108, 105, 109, 105, 116, 101, 100]⟩ : ByteArray) a0_0 a0_1 a0_2 a0_3 a0_4 a0_5) else ((turncockref1_Write.f k a0_3).bind fun bt270 => ((turncockref1_Digits.f k a0_2).bind fun t272 => (if t272.size + 5 ≤ 9223372036854775807 then ((turncockref15_Unit.f a0_1).bind fun t273 => (if t272.size + 5 + t273.size ≤ 9223372036854775807 then (if t272.size + 5 + t273.size + 6 ≤ 9223372036854775807 then (if t272.size + 5 + t273.size + 6 + bt270.1.size ≤ 9223372036854775807 then (turncockref15_RuleText.j0 k ((((t272 ++ (⟨#[32, 112, 101, 114, 32]⟩ : ByteArray)) ++ t273) ++ (⟨#[32, 110, 101, 97, 114, 32]⟩ : ByteArray)) ++ bt270.1) a0_0 a0_1 a0_2 a0_3 a0_4 a0_5) else (none)) else (none)) else (none))) else (none))))) else (some (⟨#[]⟩ : ByteArray)))) = some r := h
  clear h
  replace H := Option.bind_eq_some_iff.mp H
  obtain ⟨t269, A20, H⟩ := H
  replace H : (if t269 = true then (if a0_5 = true then (turncockref15_RuleText.j0 k (⟨#[117, 110, 108, 105, 109, 105, 116, 101, 100]⟩ : ByteArray) a0_0 a0_1 a0_2 a0_3 a0_4 a0_5) else ((turncockref1_Write.f k a0_3).bind fun bt270 => ((turncockref1_Digits.f k a0_2).bind fun t272 => (if t272.size + 5 ≤ 9223372036854775807 then ((turncockref15_Unit.f a0_1).bind fun t273 => (if t272.size + 5 + t273.size ≤ 9223372036854775807 then (if t272.size + 5 + t273.size + 6 ≤ 9223372036854775807 then (if t272.size + 5 + t273.size + 6 + bt270.1.size ≤ 9223372036854775807 then (turncockref15_RuleText.j0 k ((((t272 ++ (⟨#[32, 112, 101, 114, 32]⟩ : ByteArray)) ++ t273) ++ (⟨#[32, 110, 101, 97, 114, 32]⟩ : ByteArray)) ++ bt270.1) a0_0 a0_1 a0_2 a0_3 a0_4 a0_5) else (none)) else (none)) else (none))) else (none))))) else (some (⟨#[]⟩ : ByteArray))) = some r := H
  have A2 := Aside0.mk A20
  clear A20
  by_cases c3 : t269 = true
  · subst c3
    have H1 : (if a0_5 = true then (turncockref15_RuleText.j0 k (⟨#[117, 110, 108, 105, 109, 105, 116, 101, 100]⟩ : ByteArray) a0_0 a0_1 a0_2 a0_3 a0_4 a0_5) else ((turncockref1_Write.f k a0_3).bind fun bt270 => ((turncockref1_Digits.f k a0_2).bind fun t272 => (if t272.size + 5 ≤ 9223372036854775807 then ((turncockref15_Unit.f a0_1).bind fun t273 => (if t272.size + 5 + t273.size ≤ 9223372036854775807 then (if t272.size + 5 + t273.size + 6 ≤ 9223372036854775807 then (if t272.size + 5 + t273.size + 6 + bt270.1.size ≤ 9223372036854775807 then (turncockref15_RuleText.j0 k ((((t272 ++ (⟨#[32, 112, 101, 114, 32]⟩ : ByteArray)) ++ t273) ++ (⟨#[32, 110, 101, 97, 114, 32]⟩ : ByteArray)) ++ bt270.1) a0_0 a0_1 a0_2 a0_3 a0_4 a0_5) else (none)) else (none)) else (none))) else (none))))) = some r := by rw [if_pos rfl] at H; exact H
    clear H
    have H := H1
    clear H1
    have HC4 := Aside0.mk H
    clear H
    go_enter Try.func19, Try.ntmps19
    go_upto_if 11 with (first | ((with_reducible refine gate_dst (N := 1) rfl ?_); refine box_event ?hg (N := 1) ?hd (cs := #[.string a0_0, .int .i64 a0_1, .int .i64 a0_2, .float .f64 a0_3, .bool a0_4, .bool a0_5]) (t := 24) ?hr ?_; (case hd => rfl); (case hg => rfl); (case hr => first | (go_simp; done) | (go_simp; rfl)); intro gb268 hg w5 hbox hb; have n0_ := Aside0.mk (below_step (by repeat (first | (with_reducible first | exact HB.out | apply below_alloc | apply pw_below_drewN | apply below_drew1) | exact HB.out)) hb); have n1_ := Aside0.mk (hbox); have n2_ := Aside0.mk ((by rw [hg]; exact (below_size (by repeat (first | (with_reducible first | exact HB.out | apply below_alloc | apply pw_below_drewN | apply below_drew1) | exact HB.out))) : w.heap.size ≤ gb268)); have n3_ := Aside0.mk ((by rw [hg]; exact (below_size (by repeat (first | (with_reducible first | exact HB.out | apply below_alloc | apply pw_below_drewN | apply below_drew1) | exact HB.out))) : w.heap.size ≤ gb268)); clear HB; have HB := n0_; have BK268 := n1_; have GW268 := n2_; have GE268 := n3_; clear n0_ n1_ n2_ n3_; clear hb hbox hg; obtain ⟨hcz6_0, hcz6_1, hcz6_2, hcz6_3, hcz6_4, hcz6_5, hfz6_0, hfz6_1, hfz6_2, hfz6_3, hfz6_4, hfz6_5⟩ := blk_facts6_x11 BK268.out) | ((with_reducible refine gate_callee (f := 15) rfl ?_); refine goesL_ (some 7) rfl rfl Try.func15 (by kernel_rfl) rfl #[.agg #[.string a0_0, .int .i64 a0_1, .int .i64 a0_2, .float .f64 a0_3, .bool a0_4, .bool a0_5]] rfl (by (try simp only [List.map_toArray, List.map_cons, List.map_nil]); first | done | rfl | (simp only [List.length_drop, List.length_take]; rfl)) ?_; (with_reducible refine (turncockref15_CheckRule.calls k a0_0 a0_1 a0_2 a0_3 a0_4 a0_5 true _ A2.out).mono ?_); rintro e w7 ⟨rfl, hb⟩; refine ⟨_, rfl, ?_⟩; have n0_ := Aside0.mk (blk_below (g := gb268) (o := .cells #[.string a0_0, .int .i64 a0_1, .int .i64 a0_2, .float .f64 a0_3, .bool a0_4, .bool a0_5] 24 (0, 0)) (by (with_reducible repeat (first | refine blk_drewN ?_ _ | refine blk_drew ?_ | refine blk_alloc ?_ _)); exact BK268.out) hb); have n1_ := Aside0.mk (below_step (by repeat (first | (with_reducible first | exact HB.out | apply below_alloc | apply pw_below_drewN | apply below_drew1 | refine below_set ?_ GE268.out) | exact HB.out)) hb); clear BK268; clear HB; have BK268 := n0_; have HB := n1_; clear n0_ n1_; (try clear hb); (try clear hb2); (try clear hk); (try clear hi); obtain ⟨hcz8_0, hcz8_1, hcz8_2, hcz8_3, hcz8_4, hcz8_5, hfz8_0, hfz8_1, hfz8_2, hfz8_3, hfz8_4, hfz8_5⟩ := blk_facts6_x11 BK268.out))
    (try simp only [Act.put, List.setIfInBounds_toArray, List.set_cons_zero, List.set_cons_succ])
    go_cut [3] (fun v3 wc => ∃ (kq : Nat) (x3_3 : ByteArray), v3 = .string x3_3 ∧ Aside0 (turncockref15_RuleText.j0 kq x3_3 a0_0 a0_1 a0_2 a0_3 a0_4 a0_5 = some r) ∧ Aside0 (kq ≤ k) ∧ Aside0 (wc.heap[gb268]? = some (.cells #[.string a0_0, .int .i64 a0_1, .int .i64 a0_2, .float .f64 a0_3, .bool a0_4, .bool a0_5] 24 (0, 0))) ∧ Aside0 (Below w.heap.size w wc))
    case first =>
      have H := HC4.out
      clear HC4
      by_cases c9 : a0_5 = true
      · subst c9
        have H1 : (turncockref15_RuleText.j0 k (⟨#[117, 110, 108, 105, 109, 105, 116, 101, 100]⟩ : ByteArray) a0_0 a0_1 a0_2 a0_3 a0_4 true) = some r := by rw [if_pos rfl] at H; exact H
        clear H
        have H := H1
        clear H1
        have H' := Aside0.mk H
        clear H
        go_wp2
        go_meet
        case rel => exact ⟨_, ((⟨#[117, 110, 108, 105, 109, 105, 116, 101, 100]⟩ : ByteArray)), (by first | rfl | (simp; done) | (simp [*]; done)), H', ⟨by first | omega | exact Nat.le_refl _⟩, ⟨by (with_reducible repeat (first | refine blk_drewN ?_ _ | refine blk_drew ?_ | refine blk_alloc ?_ _)); exact BK268.out⟩, ⟨by repeat (first | (with_reducible first | exact HB.out | apply below_alloc | apply pw_below_drewN | apply below_drew1 | refine below_set ?_ GE268.out) | exact HB.out)⟩⟩
      · replace c9 := Bool.eq_false_iff.mpr c9
        subst c9
        have H1 : ((turncockref1_Write.f k a0_3).bind fun bt270 => ((turncockref1_Digits.f k a0_2).bind fun t272 => (if t272.size + 5 ≤ 9223372036854775807 then ((turncockref15_Unit.f a0_1).bind fun t273 => (if t272.size + 5 + t273.size ≤ 9223372036854775807 then (if t272.size + 5 + t273.size + 6 ≤ 9223372036854775807 then (if t272.size + 5 + t273.size + 6 + bt270.1.size ≤ 9223372036854775807 then (turncockref15_RuleText.j0 k ((((t272 ++ (⟨#[32, 112, 101, 114, 32]⟩ : ByteArray)) ++ t273) ++ (⟨#[32, 110, 101, 97, 114, 32]⟩ : ByteArray)) ++ bt270.1) a0_0 a0_1 a0_2 a0_3 a0_4 false) else (none)) else (none)) else (none))) else (none)))) = some r := by rw [if_neg (show ¬ (false = true) by decide)] at H; exact H
        clear H
        have H := H1
        clear H1
        replace H := Option.bind_eq_some_iff.mp H
        obtain ⟨⟨t270, t271⟩, A100, H⟩ := H
        replace H : ((turncockref1_Digits.f k a0_2).bind fun t272 => (if t272.size + 5 ≤ 9223372036854775807 then ((turncockref15_Unit.f a0_1).bind fun t273 => (if t272.size + 5 + t273.size ≤ 9223372036854775807 then (if t272.size + 5 + t273.size + 6 ≤ 9223372036854775807 then (if t272.size + 5 + t273.size + 6 + t270.size ≤ 9223372036854775807 then (turncockref15_RuleText.j0 k ((((t272 ++ (⟨#[32, 112, 101, 114, 32]⟩ : ByteArray)) ++ t273) ++ (⟨#[32, 110, 101, 97, 114, 32]⟩ : ByteArray)) ++ t270) a0_0 a0_1 a0_2 a0_3 a0_4 false) else (none)) else (none)) else (none))) else (none))) = some r := H
        have A10 := Aside0.mk A100
        clear A100
        replace H := Option.bind_eq_some_iff.mp H
        obtain ⟨t272, A110, H⟩ := H
        replace H : (if t272.size + 5 ≤ 9223372036854775807 then ((turncockref15_Unit.f a0_1).bind fun t273 => (if t272.size + 5 + t273.size ≤ 9223372036854775807 then (if t272.size + 5 + t273.size + 6 ≤ 9223372036854775807 then (if t272.size + 5 + t273.size + 6 + t270.size ≤ 9223372036854775807 then (turncockref15_RuleText.j0 k ((((t272 ++ (⟨#[32, 112, 101, 114, 32]⟩ : ByteArray)) ++ t273) ++ (⟨#[32, 110, 101, 97, 114, 32]⟩ : ByteArray)) ++ t270) a0_0 a0_1 a0_2 a0_3 a0_4 false) else (none)) else (none)) else (none))) else (none)) = some r := H
        have A11 := Aside0.mk A110
        clear A110
        by_cases c12 : t272.size + 5 ≤ 9223372036854775807
        · rw [if_pos c12] at H
          have c12b0 := eq_true c12
          have c12b1 : decide (t272.size + 5 ≤ 9223372036854775807) = true := decide_eq_true c12
          try have c12b2 : (9223372036854775807 < t272.size + 5) = False := eq_false (Nat.not_lt.2 c12)
          replace H := Option.bind_eq_some_iff.mp H
          obtain ⟨t273, A130, H⟩ := H
          replace H : (if t272.size + 5 + t273.size ≤ 9223372036854775807 then (if t272.size + 5 + t273.size + 6 ≤ 9223372036854775807 then (if t272.size + 5 + t273.size + 6 + t270.size ≤ 9223372036854775807 then (turncockref15_RuleText.j0 k ((((t272 ++ (⟨#[32, 112, 101, 114, 32]⟩ : ByteArray)) ++ t273) ++ (⟨#[32, 110, 101, 97, 114, 32]⟩ : ByteArray)) ++ t270) a0_0 a0_1 a0_2 a0_3 a0_4 false) else (none)) else (none)) else (none)) = some r := H
          have A13 := Aside0.mk A130
          clear A130
          by_cases c14 : t272.size + 5 + t273.size ≤ 9223372036854775807
          · rw [if_pos c14] at H
            have c14b0 := eq_true c14
            have c14b1 : decide (t272.size + 5 + t273.size ≤ 9223372036854775807) = true := decide_eq_true c14
            try have c14b2 : (9223372036854775807 < t272.size + 5 + t273.size) = False := eq_false (Nat.not_lt.2 c14)
            by_cases c15 : t272.size + 5 + t273.size + 6 ≤ 9223372036854775807
            · rw [if_pos c15] at H
              have c15b0 := eq_true c15
              have c15b1 : decide (t272.size + 5 + t273.size + 6 ≤ 9223372036854775807) = true := decide_eq_true c15
              try have c15b2 : (9223372036854775807 < t272.size + 5 + t273.size + 6) = False := eq_false (Nat.not_lt.2 c15)
              by_cases c16 : t272.size + 5 + t273.size + 6 + t270.size ≤ 9223372036854775807
              · rw [if_pos c16] at H
                have c16b0 := eq_true c16
                have c16b1 : decide (t272.size + 5 + t273.size + 6 + t270.size ≤ 9223372036854775807) = true := decide_eq_true c16
                try have c16b2 : (9223372036854775807 < t272.size + 5 + t273.size + 6 + t270.size) = False := eq_false (Nat.not_lt.2 c16)
                have H' := Aside0.mk H
                clear H
                obtain ⟨hcz17_0, hcz17_1, hcz17_2, hcz17_3, hcz17_4, hcz17_5, hfz17_0, hfz17_1, hfz17_2, hfz17_3, hfz17_4, hfz17_5⟩ := blk_facts6_x11 BK268.out
                try go_wp2_with (first | ((with_reducible refine gate_callee (f := 37) rfl ?_); refine goesL_ (some 15) rfl rfl Try.func37 (by kernel_rfl) rfl #[.float .f64 a0_3] rfl (by (try simp only [List.map_toArray, List.map_cons, List.map_nil]); first | done | rfl | (simp only [List.length_drop, List.length_take]; rfl)) ?_; (with_reducible refine (turncockref1_Write.calls k a0_3 t270 t271 _ A10.out).mono ?_); rintro e w18 ⟨rfl, hb⟩; refine ⟨_, rfl, ?_⟩; have n0_ := Aside0.mk (blk_below (g := gb268) (o := .cells #[.string a0_0, .int .i64 a0_1, .int .i64 a0_2, .float .f64 a0_3, .bool a0_4, .bool false] 24 (0, 0)) (by (with_reducible repeat (first | refine blk_drewN ?_ _ | refine blk_drew ?_ | refine blk_alloc ?_ _)); exact BK268.out) hb); have n1_ := Aside0.mk (below_step (by repeat (first | (with_reducible first | exact HB.out | apply below_alloc | apply pw_below_drewN | apply below_drew1 | refine below_set ?_ GE268.out) | exact HB.out)) hb); clear BK268; clear HB; have BK268 := n0_; have HB := n1_; clear n0_ n1_; (try clear hb); (try clear hb2); (try clear hk); (try clear hi)))
                have n0_ := Aside0.mk (blk_drew BK268.out)
                have n1_ := Aside0.mk (below_drew1 HB.out)
                clear BK268
                clear HB
                have BK268 := n0_
                have HB := n1_
                clear n0_ n1_
                refine start_ (n := 12) (S := fun w' => w'.cell? ⟨gb268, 0, none⟩ = some (.string a0_0) ∧ w'.cell? ⟨gb268, 1, none⟩ = some (.int .i64 a0_1) ∧ w'.cell? ⟨gb268, 2, none⟩ = some (.int .i64 a0_2) ∧ w'.cell? ⟨gb268, 3, none⟩ = some (.float .f64 a0_3) ∧ w'.cell? ⟨gb268, 4, none⟩ = some (.bool a0_4) ∧ w'.cell? ⟨gb268, 5, none⟩ = some (.bool false)) (ds := []) #[false, false, false, false, false, false, false, false, false, false, false, false] (by kernel_rfl) rfl rfl ⟨(blk_cell BK268.out 0).trans rfl, (blk_cell BK268.out 1).trans rfl, (blk_cell BK268.out 2).trans rfl, (blk_cell BK268.out 3).trans rfl, (blk_cell BK268.out 4).trans rfl, (blk_cell BK268.out 5).trans rfl⟩ (fun hHeld => ?_); refine with_tabW turncockref15_RuleText.tab6 turncockref15_RuleText.bits6 (fun HT_ HW_ => ?_)
                generalize w18.drew = w19 at BK268 HB hHeld ⊢
                refine pure_ (i := 0) (N := some 18) (v := ?_) (a' := ?_) #[true, false, false, false, false, false, false, false, false, false, false, false] rfl rfl (any_of HT_.out (by kernel_rfl)) (fun _ _ _ h => h) (Or.inl ⟨by rfl, ?_⟩) ?_ ?_
                rotate_left
                · intro w'
                  go_simp
                  (first | with_reducible rfl | (rw [if_neg (by first | omega | (simp only [ByteArray.size_append] at *; omega) | (have hl_ : ∀ l_ : List UInt8, (⟨l_.toArray⟩ : ByteArray).size = l_.length := (fun l_ => by show l_.toArray.size = _; simp); simp only [ByteArray.size_append, hl_, List.length_cons, List.length_nil] at *; omega))]))
                rotate_left
                · simp only [Act.put, List.setIfInBounds_toArray, List.set_cons_zero, List.set_cons_succ, i64_w, i32_w]
                  rfl
                refine pure_ (i := 4) (N := some 22) (v := ?_) (a' := ?_) #[true, false, false, false, true, false, false, false, false, false, false, false] rfl rfl (any_of HT_.out (by kernel_rfl)) (fun _ _ _ h => h) (Or.inl ⟨by rfl, ?_⟩) ?_ ?_
                rotate_left
                · intro w'
                  go_simp
                  (first | with_reducible rfl | (rw [if_neg (by first | omega | (simp only [ByteArray.size_append] at *; omega) | (have hl_ : ∀ l_ : List UInt8, (⟨l_.toArray⟩ : ByteArray).size = l_.length := (fun l_ => by show l_.toArray.size = _; simp); simp only [ByteArray.size_append, hl_, List.length_cons, List.length_nil] at *; omega))]))
                rotate_left
                · simp only [Act.put, List.setIfInBounds_toArray, List.set_cons_zero, List.set_cons_succ, i64_w, i32_w]
                  rfl
                refine pure_ (i := 9) (N := some 27) (v := ?_) (a' := ?_) #[true, false, false, false, true, false, false, false, false, true, false, false] rfl rfl (any_of HT_.out (by kernel_rfl)) (fun _ _ _ h => h) (Or.inl ⟨by rfl, ?_⟩) ?_ ?_
                rotate_left
                · intro w'
                  go_simp
                  (first | with_reducible rfl | (rw [if_neg (by first | omega | (simp only [ByteArray.size_append] at *; omega) | (have hl_ : ∀ l_ : List UInt8, (⟨l_.toArray⟩ : ByteArray).size = l_.length := (fun l_ => by show l_.toArray.size = _; simp); simp only [ByteArray.size_append, hl_, List.length_cons, List.length_nil] at *; omega))]))
                rotate_left
                · simp only [Act.put, List.setIfInBounds_toArray, List.set_cons_zero, List.set_cons_succ, i64_w, i32_w]
                  rfl
                refine take_ (i := 1) (N := some 19) (v := ?_) (a' := ?_) #[true, true, false, false, true, false, false, false, false, true, false, false] rfl rfl (take_ofW HT_.out HW_.out (by kernel_rfl)) (fun _ _ _ h => h) (Or.inl ⟨by rfl, ?_⟩) hHeld ?_ ?_
                rotate_left
                · rintro w' ⟨s0, s1, s2, s3, s4, s5⟩
                  go_simp
                  (first | with_reducible rfl | (rw [if_neg (by first | omega | (simp only [ByteArray.size_append] at *; omega) | (have hl_ : ∀ l_ : List UInt8, (⟨l_.toArray⟩ : ByteArray).size = l_.length := (fun l_ => by show l_.toArray.size = _; simp); simp only [ByteArray.size_append, hl_, List.length_cons, List.length_nil] at *; omega))]))
                rotate_left
                · simp only [Act.put, List.setIfInBounds_toArray, List.set_cons_zero, List.set_cons_succ, i64_w, i32_w]
                  rfl
                refine take_ (i := 5) (N := some 23) (v := ?_) (a' := ?_) #[true, true, false, false, true, true, false, false, false, true, false, false] rfl rfl (take_ofW HT_.out HW_.out (by kernel_rfl)) (fun _ _ _ h => h) (Or.inl ⟨by rfl, ?_⟩) hHeld ?_ ?_
                rotate_left
                · rintro w' ⟨s0, s1, s2, s3, s4, s5⟩
                  go_simp
                  (first | with_reducible rfl | (rw [if_neg (by first | omega | (simp only [ByteArray.size_append] at *; omega) | (have hl_ : ∀ l_ : List UInt8, (⟨l_.toArray⟩ : ByteArray).size = l_.length := (fun l_ => by show l_.toArray.size = _; simp); simp only [ByteArray.size_append, hl_, List.length_cons, List.length_nil] at *; omega))]))
                rotate_left
                · simp only [Act.put, List.setIfInBounds_toArray, List.set_cons_zero, List.set_cons_succ, i64_w, i32_w]
                  rfl
                refine one_ (i := 2) (N := some 20) #[true, true, true, false, true, true, false, false, false, true, false, false] rfl rfl (one_of HT_.out (by kernel_rfl)) (by decide) (fun K hK => ?_)
                refine goes_ Try.func44 (by kernel_rfl) rfl #[.int .i64 a0_2] (by rfl) rfl rfl (by (try simp only [List.map_toArray, List.map_cons, List.map_nil]); first | done | rfl | (simp only [List.length_drop, List.length_take]; rfl)) ?_
                with_reducible refine (turncockref1_Digits.calls k a0_2 t272 _ A11.out).mono ?_
                rintro e w20 ⟨rfl, hb⟩
                refine ⟨_, rfl, ?_⟩
                have n0_ := Aside0.mk (blk_below (g := gb268) (o := .cells #[.string a0_0, .int .i64 a0_1, .int .i64 a0_2, .float .f64 a0_3, .bool a0_4, .bool false] 24 (0, 0)) (by (with_reducible repeat (first | refine blk_drewN ?_ _ | refine blk_drew ?_ | refine blk_alloc ?_ _)); exact BK268.out) hb)
                have n1_ := Aside0.mk (below_step (by repeat (first | (with_reducible first | exact HB.out | apply below_alloc | apply pw_below_drewN | apply below_drew1 | refine below_set ?_ GE268.out) | exact HB.out)) hb)
                clear BK268
                clear HB
                have BK268 := n0_
                have HB := n1_
                clear n0_ n1_
                (try clear hb)
                (try clear hb2)
                (try clear hk)
                (try clear hi)
                refine hK.out _ _ ⟨(blk_cell BK268.out 0).trans rfl, (blk_cell BK268.out 1).trans rfl, (blk_cell BK268.out 2).trans rfl, (blk_cell BK268.out 3).trans rfl, (blk_cell BK268.out 4).trans rfl, (blk_cell BK268.out 5).trans rfl⟩ (fun hHeld => ?_)
                clear hK K
                refine norm_ (a' := ?_) ?_ ?_
                rotate_left
                · show Act.put _ (some 20) _ = _
                  simp only [Act.put, List.setIfInBounds_toArray, List.set_cons_zero, List.set_cons_succ, i64_w, i32_w]
                  rfl
                refine pure_ (i := 3) (N := some 21) (v := ?_) (a' := ?_) #[true, true, true, true, true, true, false, false, false, true, false, false] rfl rfl (any_of HT_.out (by kernel_rfl)) (fun _ _ _ h => h) (Or.inl ⟨by rfl, ?_⟩) ?_ ?_
                rotate_left
                · intro w'
                  go_simp
                  (first | with_reducible rfl | (rw [if_neg (by first | omega | (simp only [ByteArray.size_append] at *; omega) | (have hl_ : ∀ l_ : List UInt8, (⟨l_.toArray⟩ : ByteArray).size = l_.length := (fun l_ => by show l_.toArray.size = _; simp); simp only [ByteArray.size_append, hl_, List.length_cons, List.length_nil] at *; omega))]))
                rotate_left
                · simp only [Act.put, List.setIfInBounds_toArray, List.set_cons_zero, List.set_cons_succ, i64_w, i32_w]
                  rfl
                refine one_ (i := 6) (N := some 24) #[true, true, true, true, true, true, true, false, false, true, false, false] rfl rfl (one_of HT_.out (by kernel_rfl)) (by decide) (fun K hK => ?_)
                refine goes_ Try.func45 (by kernel_rfl) rfl #[.int .i64 a0_1] (by rfl) rfl rfl (by (try simp only [List.map_toArray, List.map_cons, List.map_nil]); first | done | rfl | (simp only [List.length_drop, List.length_take]; rfl)) ?_
                with_reducible refine (turncockref15_Unit.calls a0_1 t273 _ A13.out).mono ?_
                rintro e w' ⟨rfl, ⟨nd, rfl⟩⟩
                refine ⟨_, rfl, ?_⟩
                refine hK.out _ _ ⟨(blk_cell BK268.out 0).trans rfl, (blk_cell BK268.out 1).trans rfl, (blk_cell BK268.out 2).trans rfl, (blk_cell BK268.out 3).trans rfl, (blk_cell BK268.out 4).trans rfl, (blk_cell BK268.out 5).trans rfl⟩ (fun hHeld => ?_)
                clear hK K
                refine norm_ (a' := ?_) ?_ ?_
                rotate_left
                · show Act.put _ (some 24) _ = _
                  simp only [Act.put, List.setIfInBounds_toArray, List.set_cons_zero, List.set_cons_succ, i64_w, i32_w]
                  rfl
                refine pure_ (i := 7) (N := some 25) (v := ?_) (a' := ?_) #[true, true, true, true, true, true, true, true, false, true, false, false] rfl rfl (any_of HT_.out (by kernel_rfl)) (fun _ _ _ h => h) (Or.inl ⟨by rfl, ?_⟩) ?_ ?_
                rotate_left
                · intro w'
                  go_simp
                  (first | with_reducible rfl | (rw [if_neg (by first | omega | (simp only [ByteArray.size_append] at *; omega) | (have hl_ : ∀ l_ : List UInt8, (⟨l_.toArray⟩ : ByteArray).size = l_.length := (fun l_ => by show l_.toArray.size = _; simp); simp only [ByteArray.size_append, hl_, List.length_cons, List.length_nil] at *; omega))]))
                rotate_left
                · simp only [Act.put, List.setIfInBounds_toArray, List.set_cons_zero, List.set_cons_succ, i64_w, i32_w]
                  rfl
                refine pure_ (i := 8) (N := some 26) (v := ?_) (a' := ?_) #[true, true, true, true, true, true, true, true, true, true, false, false] rfl rfl (any_of HT_.out (by kernel_rfl)) (fun _ _ _ h => h) (Or.inl ⟨by rfl, ?_⟩) ?_ ?_
                rotate_left
                · intro w'
                  go_simp
                  (first | with_reducible rfl | (rw [if_neg (by first | omega | (simp only [ByteArray.size_append] at *; omega) | (have hl_ : ∀ l_ : List UInt8, (⟨l_.toArray⟩ : ByteArray).size = l_.length := (fun l_ => by show l_.toArray.size = _; simp); simp only [ByteArray.size_append, hl_, List.length_cons, List.length_nil] at *; omega))]))
                rotate_left
                · simp only [Act.put, List.setIfInBounds_toArray, List.set_cons_zero, List.set_cons_succ, i64_w, i32_w]
                  rfl
                refine pure_ (i := 10) (N := some 28) (v := ?_) (a' := ?_) #[true, true, true, true, true, true, true, true, true, true, true, false] rfl rfl (any_of HT_.out (by kernel_rfl)) (fun _ _ _ h => h) (Or.inl ⟨by rfl, ?_⟩) ?_ ?_
                rotate_left
                · intro w'
                  go_simp
                  (first | with_reducible rfl | (rw [if_neg (by first | omega | (simp only [ByteArray.size_append] at *; omega) | (have hl_ : ∀ l_ : List UInt8, (⟨l_.toArray⟩ : ByteArray).size = l_.length := (fun l_ => by show l_.toArray.size = _; simp); simp only [ByteArray.size_append, hl_, List.length_cons, List.length_nil] at *; omega))]))
                rotate_left
                · simp only [Act.put, List.setIfInBounds_toArray, List.set_cons_zero, List.set_cons_succ, i64_w, i32_w]
                  rfl
                refine pure_ (i := 11) (N := some 3) (v := ?_) (a' := ?_) #[true, true, true, true, true, true, true, true, true, true, true, true] rfl rfl (any_of HT_.out (by kernel_rfl)) (fun _ _ _ h => h) (Or.inl ⟨by rfl, ?_⟩) ?_ ?_
                rotate_left
                · intro w'
                  go_simp
                  (first | with_reducible rfl | (rw [if_neg (by first | omega | (simp only [ByteArray.size_append] at *; omega) | (have hl_ : ∀ l_ : List UInt8, (⟨l_.toArray⟩ : ByteArray).size = l_.length := (fun l_ => by show l_.toArray.size = _; simp); simp only [ByteArray.size_append, hl_, List.length_cons, List.length_nil] at *; omega))]))
                rotate_left
                · simp only [Act.put, List.setIfInBounds_toArray, List.set_cons_zero, List.set_cons_succ, i64_w, i32_w]
                  rfl
                refine done_ (done_of HT_.out (by kernel_rfl)) ?_
                try go_wp2
                go_meet
                case rel => exact ⟨_, ((((t272 ++ (⟨#[32, 112, 101, 114, 32]⟩ : ByteArray)) ++ t273) ++ (⟨#[32, 110, 101, 97, 114, 32]⟩ : ByteArray)) ++ t270), (by first | rfl | (simp; done) | (simp [*]; done)), H', ⟨by first | omega | exact Nat.le_refl _⟩, ⟨by (with_reducible repeat (first | refine blk_drewN ?_ _ | refine blk_drew ?_ | refine blk_alloc ?_ _)); exact BK268.out⟩, ⟨by repeat (first | (with_reducible first | exact HB.out | apply below_alloc | apply pw_below_drewN | apply below_drew1 | refine below_set ?_ GE268.out) | exact HB.out)⟩⟩
              · rw [if_neg c16] at H
                exact absurd H (by simp)
            · rw [if_neg c15] at H
              exact absurd H (by simp)
          · rw [if_neg c14] at H
            exact absurd H (by simp)
        · rw [if_neg c12] at H
          exact absurd H (by simp)
    case rest =>
      clear HC4
      try clear c1
      try clear p2
      try clear c3
      try clear c4
      try clear c9
      try clear c12
      try clear c12b0
      try clear c12b1
      try clear c12b2
      try clear c14
      try clear c14b0
      try clear c14b1
      try clear c14b2
      try clear c15
      try clear c15b0
      try clear c15b1
      try clear c15b2
      try clear c16
      try clear c16b0
      try clear c16b1
      try clear c16b2
      try clear c19
      try clear hcz17_0
      try clear hcz17_1
      try clear hcz17_2
      try clear hcz17_3
      try clear hcz17_4
      try clear hcz17_5
      try clear hcz6_0
      try clear hcz6_1
      try clear hcz6_2
      try clear hcz6_3
      try clear hcz6_4
      try clear hcz6_5
      try clear hcz8_0
      try clear hcz8_1
      try clear hcz8_2
      try clear hcz8_3
      try clear hcz8_4
      try clear hcz8_5
      try clear hfz17_0
      try clear hfz17_1
      try clear hfz17_2
      try clear hfz17_3
      try clear hfz17_4
      try clear hfz17_5
      try clear hfz6_0
      try clear hfz6_1
      try clear hfz6_2
      try clear hfz6_3
      try clear hfz6_4
      try clear hfz6_5
      try clear hfz8_0
      try clear hfz8_1
      try clear hfz8_2
      try clear hfz8_3
      try clear hfz8_4
      try clear hfz8_5
      obtain ⟨kq, x3_3, rfl, HA, HJ3, BK268, HB⟩ := hcut
      cases kq with
      | zero => exact absurd HA.out (by simp [turncockref15_RuleText.j0])
      | succ kj3 =>
        have H := HA.out
        clear HA
        simp only [turncockref15_RuleText.j0] at H
        by_cases c21 : a0_4 = true
        · subst c21
          have H1 : (if x3_3.size + 7 ≤ 9223372036854775807 then (if a0_0.toList = ([] : List UInt8) then (some (x3_3 ++ (⟨#[32, 115, 104, 97, 100, 111, 119]⟩ : ByteArray))) else (if x3_3.size + 7 + 1 ≤ 9223372036854775807 then ((turncockref1_Escape.f a0_0).bind fun t274 => (if x3_3.size + 7 + 1 + t274.size ≤ 9223372036854775807 then (some (((x3_3 ++ (⟨#[32, 115, 104, 97, 100, 111, 119]⟩ : ByteArray)) ++ (⟨#[32]⟩ : ByteArray)) ++ t274)) else (none))) else (none))) else (none)) = some r := by rw [if_pos rfl] at H; exact H
          clear H
          have H := H1
          clear H1
          by_cases c22 : x3_3.size + 7 ≤ 9223372036854775807
          · rw [if_pos c22] at H
            have c22b0 := eq_true c22
            have c22b1 : decide (x3_3.size + 7 ≤ 9223372036854775807) = true := decide_eq_true c22
            try have c22b2 : (9223372036854775807 < x3_3.size + 7) = False := eq_false (Nat.not_lt.2 c22)
            by_cases c23 : a0_0.toList = ([] : List UInt8)
            · rw [if_pos c23] at H
              have c23b0 : (a0_0.toList == ([] : List UInt8)) = true := beq_iff_eq.mpr c23
              have c23b1 : (a0_0.toList != ([] : List UInt8)) = false := bne_eq_false_iff_eq.mpr c23
              clear c23
              obtain rfl := Option.some.inj H
              obtain ⟨hcz24_0, hcz24_1, hcz24_2, hcz24_3, hcz24_4, hcz24_5, hfz24_0, hfz24_1, hfz24_2, hfz24_3, hfz24_4, hfz24_5⟩ := blk_facts6_x11 BK268.out
              go_wp2
              go_ret
              exact ⟨by first | rfl | (simp [errW_none, errW_some] <;> rfl) | (simp [*, errW_none, errW_some] <;> rfl), by repeat (first | (with_reducible first | exact HB.out | apply below_alloc | apply pw_below_drewN | apply below_drew1 | refine below_set ?_ GE268.out) | exact HB.out)⟩
            · rw [if_neg c23] at H
              have c23b0 : (a0_0.toList == ([] : List UInt8)) = false := beq_eq_false_iff_ne.mpr c23
              have c23b1 : (a0_0.toList != ([] : List UInt8)) = true := bne_iff_ne.mpr c23
              by_cases c25 : x3_3.size + 7 + 1 ≤ 9223372036854775807
              · rw [if_pos c25] at H
                have c25b0 := eq_true c25
                have c25b1 : decide (x3_3.size + 7 + 1 ≤ 9223372036854775807) = true := decide_eq_true c25
                try have c25b2 : (9223372036854775807 < x3_3.size + 7 + 1) = False := eq_false (Nat.not_lt.2 c25)
                replace H := Option.bind_eq_some_iff.mp H
                obtain ⟨t274, A260, H⟩ := H
                replace H : (if x3_3.size + 7 + 1 + t274.size ≤ 9223372036854775807 then (some (((x3_3 ++ (⟨#[32, 115, 104, 97, 100, 111, 119]⟩ : ByteArray)) ++ (⟨#[32]⟩ : ByteArray)) ++ t274)) else (none)) = some r := H
                have A26 := Aside0.mk A260
                clear A260
                by_cases c27 : x3_3.size + 7 + 1 + t274.size ≤ 9223372036854775807
                · rw [if_pos c27] at H
                  have c27b0 := eq_true c27
                  have c27b1 : decide (x3_3.size + 7 + 1 + t274.size ≤ 9223372036854775807) = true := decide_eq_true c27
                  try have c27b2 : (9223372036854775807 < x3_3.size + 7 + 1 + t274.size) = False := eq_false (Nat.not_lt.2 c27)
                  obtain rfl := Option.some.inj H
                  obtain ⟨hcz28_0, hcz28_1, hcz28_2, hcz28_3, hcz28_4, hcz28_5, hfz28_0, hfz28_1, hfz28_2, hfz28_3, hfz28_4, hfz28_5⟩ := blk_facts6_x11 BK268.out
                  go_wp2_with (first | ((with_reducible refine gate_callee (f := 46) rfl ?_); refine goesL_ (some 40) rfl rfl Try.func46 (by kernel_rfl) rfl #[.string a0_0] rfl (by (try simp only [List.map_toArray, List.map_cons, List.map_nil]); first | done | rfl | (simp only [List.length_drop, List.length_take]; rfl)) ?_; (with_reducible refine (turncockref1_Escape.calls a0_0 t274 _ A26.out).mono ?_); rintro e w' ⟨rfl, ⟨nd, rfl⟩⟩; refine ⟨_, rfl, ?_⟩))
                  go_ret
                  exact ⟨by first | rfl | (simp [errW_none, errW_some] <;> rfl) | (simp [*, errW_none, errW_some] <;> rfl), by repeat (first | (with_reducible first | exact HB.out | apply below_alloc | apply pw_below_drewN | apply below_drew1 | refine below_set ?_ GE268.out) | exact HB.out)⟩
                · rw [if_neg c27] at H
                  exact absurd H (by simp)
              · rw [if_neg c25] at H
                exact absurd H (by simp)
          · rw [if_neg c22] at H
            exact absurd H (by simp)
        · replace c21 := Bool.eq_false_iff.mpr c21
          subst c21
          have H1 : (if a0_0.toList = ([] : List UInt8) then (some x3_3) else (if x3_3.size + 1 ≤ 9223372036854775807 then ((turncockref1_Escape.f a0_0).bind fun t275 => (if x3_3.size + 1 + t275.size ≤ 9223372036854775807 then (some ((x3_3 ++ (⟨#[32]⟩ : ByteArray)) ++ t275)) else (none))) else (none))) = some r := by rw [if_neg (show ¬ (false = true) by decide)] at H; exact H
          clear H
          have H := H1
          clear H1
          by_cases c29 : a0_0.toList = ([] : List UInt8)
          · rw [if_pos c29] at H
            have c29b0 : (a0_0.toList == ([] : List UInt8)) = true := beq_iff_eq.mpr c29
            have c29b1 : (a0_0.toList != ([] : List UInt8)) = false := bne_eq_false_iff_eq.mpr c29
            clear c29
            obtain rfl := Option.some.inj H
            obtain ⟨hcz30_0, hcz30_1, hcz30_2, hcz30_3, hcz30_4, hcz30_5, hfz30_0, hfz30_1, hfz30_2, hfz30_3, hfz30_4, hfz30_5⟩ := blk_facts6_x11 BK268.out
            go_wp2
            go_ret
            exact ⟨by first | rfl | (simp [errW_none, errW_some] <;> rfl) | (simp [*, errW_none, errW_some] <;> rfl), by repeat (first | (with_reducible first | exact HB.out | apply below_alloc | apply pw_below_drewN | apply below_drew1 | refine below_set ?_ GE268.out) | exact HB.out)⟩
          · rw [if_neg c29] at H
            have c29b0 : (a0_0.toList == ([] : List UInt8)) = false := beq_eq_false_iff_ne.mpr c29
            have c29b1 : (a0_0.toList != ([] : List UInt8)) = true := bne_iff_ne.mpr c29
            by_cases c31 : x3_3.size + 1 ≤ 9223372036854775807
            · rw [if_pos c31] at H
              have c31b0 := eq_true c31
              have c31b1 : decide (x3_3.size + 1 ≤ 9223372036854775807) = true := decide_eq_true c31
              try have c31b2 : (9223372036854775807 < x3_3.size + 1) = False := eq_false (Nat.not_lt.2 c31)
              replace H := Option.bind_eq_some_iff.mp H
              obtain ⟨t275, A320, H⟩ := H
              replace H : (if x3_3.size + 1 + t275.size ≤ 9223372036854775807 then (some ((x3_3 ++ (⟨#[32]⟩ : ByteArray)) ++ t275)) else (none)) = some r := H
              have A32 := Aside0.mk A320
              clear A320
              by_cases c33 : x3_3.size + 1 + t275.size ≤ 9223372036854775807
              · rw [if_pos c33] at H
                have c33b0 := eq_true c33
                have c33b1 : decide (x3_3.size + 1 + t275.size ≤ 9223372036854775807) = true := decide_eq_true c33
                try have c33b2 : (9223372036854775807 < x3_3.size + 1 + t275.size) = False := eq_false (Nat.not_lt.2 c33)
                obtain rfl := Option.some.inj H
                obtain ⟨hcz34_0, hcz34_1, hcz34_2, hcz34_3, hcz34_4, hcz34_5, hfz34_0, hfz34_1, hfz34_2, hfz34_3, hfz34_4, hfz34_5⟩ := blk_facts6_x11 BK268.out
                go_wp2_with (first | ((with_reducible refine gate_callee (f := 46) rfl ?_); refine goesL_ (some 40) rfl rfl Try.func46 (by kernel_rfl) rfl #[.string a0_0] rfl (by (try simp only [List.map_toArray, List.map_cons, List.map_nil]); first | done | rfl | (simp only [List.length_drop, List.length_take]; rfl)) ?_; (with_reducible refine (turncockref1_Escape.calls a0_0 t275 _ A32.out).mono ?_); rintro e w' ⟨rfl, ⟨nd, rfl⟩⟩; refine ⟨_, rfl, ?_⟩))
                go_ret
                exact ⟨by first | rfl | (simp [errW_none, errW_some] <;> rfl) | (simp [*, errW_none, errW_some] <;> rfl), by repeat (first | (with_reducible first | exact HB.out | apply below_alloc | apply pw_below_drewN | apply below_drew1 | refine below_set ?_ GE268.out) | exact HB.out)⟩
              · rw [if_neg c33] at H
                exact absurd H (by simp)
            · rw [if_neg c31] at H
              exact absurd H (by simp)
  · replace c3 := Bool.eq_false_iff.mpr c3
    subst c3
    have H1 : (some (⟨#[]⟩ : ByteArray)) = some r := by rw [if_neg (show ¬ (false = true) by decide)] at H; exact H
    clear H
    have H := H1
    clear H1
    obtain rfl := Option.some.inj H
    go_enter Try.func19, Try.ntmps19
    go_wp2_with (first | ((with_reducible refine gate_dst (N := 1) rfl ?_); refine box_event ?hg (N := 1) ?hd (cs := #[.string a0_0, .int .i64 a0_1, .int .i64 a0_2, .float .f64 a0_3, .bool a0_4, .bool a0_5]) (t := 24) ?hr ?_; (case hd => rfl); (case hg => rfl); (case hr => first | (go_simp; done) | (go_simp; rfl)); intro gb268 hg w35 hbox hb; have n0_ := Aside0.mk (below_step (by repeat (first | (with_reducible first | exact HB.out | apply below_alloc | apply pw_below_drewN | apply below_drew1) | exact HB.out)) hb); have n1_ := Aside0.mk (hbox); have n2_ := Aside0.mk ((by rw [hg]; exact (below_size (by repeat (first | (with_reducible first | exact HB.out | apply below_alloc | apply pw_below_drewN | apply below_drew1) | exact HB.out))) : w.heap.size ≤ gb268)); have n3_ := Aside0.mk ((by rw [hg]; exact (below_size (by repeat (first | (with_reducible first | exact HB.out | apply below_alloc | apply pw_below_drewN | apply below_drew1) | exact HB.out))) : w.heap.size ≤ gb268)); clear HB; have HB := n0_; have BK268 := n1_; have GW268 := n2_; have GE268 := n3_; clear n0_ n1_ n2_ n3_; clear hb hbox hg; obtain ⟨hcz36_0, hcz36_1, hcz36_2, hcz36_3, hcz36_4, hcz36_5, hfz36_0, hfz36_1, hfz36_2, hfz36_3, hfz36_4, hfz36_5⟩ := blk_facts6_x11 BK268.out) | ((with_reducible refine gate_callee (f := 15) rfl ?_); refine goesL_ (some 7) rfl rfl Try.func15 (by kernel_rfl) rfl #[.agg #[.string a0_0, .int .i64 a0_1, .int .i64 a0_2, .float .f64 a0_3, .bool a0_4, .bool a0_5]] rfl (by (try simp only [List.map_toArray, List.map_cons, List.map_nil]); first | done | rfl | (simp only [List.length_drop, List.length_take]; rfl)) ?_; (with_reducible refine (turncockref15_CheckRule.calls k a0_0 a0_1 a0_2 a0_3 a0_4 a0_5 false _ A2.out).mono ?_); rintro e w37 ⟨rfl, hb⟩; refine ⟨_, rfl, ?_⟩; have n0_ := Aside0.mk (blk_below (g := gb268) (o := .cells #[.string a0_0, .int .i64 a0_1, .int .i64 a0_2, .float .f64 a0_3, .bool a0_4, .bool a0_5] 24 (0, 0)) (by (with_reducible repeat (first | refine blk_drewN ?_ _ | refine blk_drew ?_ | refine blk_alloc ?_ _)); exact BK268.out) hb); have n1_ := Aside0.mk (below_step (by repeat (first | (with_reducible first | exact HB.out | apply below_alloc | apply pw_below_drewN | apply below_drew1 | refine below_set ?_ GE268.out) | exact HB.out)) hb); clear BK268; clear HB; have BK268 := n0_; have HB := n1_; clear n0_ n1_; (try clear hb); (try clear hb2); (try clear hk); (try clear hi)))
    go_ret
    exact ⟨by first | rfl | (simp [errW_none, errW_some] <;> rfl) | (simp [*, errW_none, errW_some] <;> rfl), by repeat (first | (with_reducible first | exact HB.out | apply below_alloc | apply pw_below_drewN | apply below_drew1 | refine below_set ?_ GE268.out) | exact HB.out)⟩

end Go.Proofs.Ytofebccpghkmgaa.PRuleChecks
