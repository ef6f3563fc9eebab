/- What the law TriePaths uses, thinned: printed by shake2.py. -/
import Derived.Test.YtipbigdpannlcaaTTriePathsPTrieFitsx0
import Derived.Test.YtipbigdpannlcaaTTriePathsPTrieFitsx7
namespace Go.Proofs.Ytipbigdpannlcaa.PTrieFits
open Go.RowKit Go.Proofs.YtipbigdpannlcaaW.PrintWords Go.Proofs.YtipbigdpannlcaaW.PrintLast Go.Proofs.YtipbigdpannlcaaW.PrintMore
attribute [local go_sem] max2_int min2_int max_two min_two max_three min_three max_four min_four
set_option linter.unusedVariables false
set_option linter.unusedSimpArgs false
def turncockref1_letter.f (a0 : Int) : Option (Bool) := if a0 ≥ 97 then (if a0 ≤ 122 then (some true) else (if a0 ≥ 65 then (some (decide (a0 ≤ 90))) else (some false))) else (if a0 ≥ 65 then (some (decide (a0 ≤ 90))) else (some false))
set_option maxHeartbeats 8000000 in
set_option maxRecDepth 100000 in
theorem turncockref1_letter.calls (a0 : Int) (r : Bool) (w : World) (h : turncockref1_letter.f a0 = some r) :
    Calls Try.prog 28 #[.int .u8 a0] w fun e w' => e = .returned (.bool r) ∧ Drawn0 w w' := by
  have H : (if a0 ≥ 97 then (if a0 ≤ 122 then (some true) else (if a0 ≥ 65 then (some (decide (a0 ≤ 90))) else (some false))) else (if a0 ≥ 65 then (some (decide (a0 ≤ 90))) else (some false))) = some r := h
  clear h
  by_cases c2 : a0 ≥ 97
  · rw [if_pos c2] at H
    have c2b0 : decide (97 ≤ a0) = true := decide_eq_true c2
    clear c2
    by_cases c3 : a0 ≤ 122
    · rw [if_pos c3] at H
      have c3b0 : decide (a0 ≤ 122) = true := decide_eq_true c3
      clear c3
      obtain rfl := Option.some.inj H
      go_enter Try.func28, Try.ntmps28
      go_wp2
      go_ret
      exact ⟨by first | rfl | (simp; done) | (simp [*]; done), by repeat (first | exact Drawn0.refl _ | apply Drawn0.step)⟩
    · rw [if_neg c3] at H
      have c3b0 : decide (a0 ≤ 122) = false := decide_eq_false c3
      clear c3
      by_cases c4 : a0 ≥ 65
      · rw [if_pos c4] at H
        have c4b0 : decide (65 ≤ a0) = true := decide_eq_true c4
        clear c4
        obtain rfl := Option.some.inj H
        go_enter Try.func28, Try.ntmps28
        go_wp2
        go_ret
        exact ⟨by first | rfl | (simp; done) | (simp [*]; done), by repeat (first | exact Drawn0.refl _ | apply Drawn0.step)⟩
      · rw [if_neg c4] at H
        have c4b0 : decide (65 ≤ a0) = false := decide_eq_false c4
        clear c4
        obtain rfl := Option.some.inj H
        go_enter Try.func28, Try.ntmps28
        go_wp2
        go_ret
        exact ⟨by first | rfl | (simp; done) | (simp [*]; done), by repeat (first | exact Drawn0.refl _ | apply Drawn0.step)⟩
  · rw [if_neg c2] at H
    have c2b0 : decide (97 ≤ a0) = false := decide_eq_false c2
    clear c2
    by_cases c5 : a0 ≥ 65
    · rw [if_pos c5] at H
      have c5b0 : decide (65 ≤ a0) = true := decide_eq_true c5
      clear c5
      obtain rfl := Option.some.inj H
      go_enter Try.func28, Try.ntmps28
      go_wp2
      go_ret
      exact ⟨by first | rfl | (simp; done) | (simp [*]; done), by repeat (first | exact Drawn0.refl _ | apply Drawn0.step)⟩
    · rw [if_neg c5] at H
      have c5b0 : decide (65 ≤ a0) = false := decide_eq_false c5
      clear c5
      obtain rfl := Option.some.inj H
      go_enter Try.func28, Try.ntmps28
      go_wp2
      go_ret
      exact ⟨by first | rfl | (simp; done) | (simp [*]; done), by repeat (first | exact Drawn0.refl _ | apply Drawn0.step)⟩
def turncockref1_digit.f (a0 : Int) : Option (Bool) := if a0 ≥ 48 then (some (decide (a0 ≤ 57))) else (some false)
set_option maxHeartbeats 8000000 in
set_option maxRecDepth 100000 in
theorem turncockref1_digit.calls (a0 : Int) (r : Bool) (w : World) (h : turncockref1_digit.f a0 = some r) :
    Calls Try.prog 29 #[.int .u8 a0] w fun e w' => e = .returned (.bool r) ∧ Drawn0 w w' := by
  have H : (if a0 ≥ 48 then (some (decide (a0 ≤ 57))) else (some false)) = some r := h
  clear h
  by_cases c2 : a0 ≥ 48
  · rw [if_pos c2] at H
    have c2b0 : decide (48 ≤ a0) = true := decide_eq_true c2
    clear c2
    obtain rfl := Option.some.inj H
    go_enter Try.func29, Try.ntmps29
    go_wp2
    go_ret
    exact ⟨by first | rfl | (simp; done) | (simp [*]; done), by repeat (first | exact Drawn0.refl _ | apply Drawn0.step)⟩
  · rw [if_neg c2] at H
    have c2b0 : decide (48 ≤ a0) = false := decide_eq_false c2
    clear c2
    obtain rfl := Option.some.inj H
    go_enter Try.func29, Try.ntmps29
    go_wp2
    go_ret
    exact ⟨by first | rfl | (simp; done) | (simp [*]; done), by repeat (first | exact Drawn0.refl _ | apply Drawn0.step)⟩
theorem turncockref1_Escape.letter (c : Int) : turncockref1_letter.f c = some (decide ((97 ≤ c ∧ c ≤ 122) ∨ (65 ≤ c ∧ c ≤ 90))) := by
  unfold turncockref1_letter.f
  by_cases h1 : c ≥ 97 <;> by_cases h2 : c ≤ 122 <;> by_cases h3 : c ≥ 65 <;> by_cases h4 : c ≤ 90 <;> simp [h1, h2, h3, h4] <;> omega
theorem turncockref1_Escape.digit (c : Int) : turncockref1_digit.f c = some (decide (48 ≤ c ∧ c ≤ 57)) := by
  unfold turncockref1_digit.f
  by_cases h1 : c ≥ 48 <;> by_cases h2 : c ≤ 57 <;> simp [h1, h2] <;> omega
theorem turncockref1_Escape.self_iff (c : UInt8) : desc_itself.self (c.toNat : Int) = decide (((97 ≤ c.toNat ∧ c.toNat ≤ 122) ∨ (65 ≤ c.toNat ∧ c.toNat ≤ 90)) ∨ (48 ≤ c.toNat ∧ c.toNat ≤ 57) ∨ c.toNat = 45 ∨ c.toNat = 95 ∨ c.toNat = 46 ∨ c.toNat = 47 ∨ c.toNat = 58) := by
  have h : ∀ n : Fin 256, desc_itself.self (n.val : Int) = decide (((97 ≤ n.val ∧ n.val ≤ 122) ∨ (65 ≤ n.val ∧ n.val ≤ 90)) ∨ (48 ≤ n.val ∧ n.val ≤ 57) ∨ n.val = 45 ∨ n.val = 95 ∨ n.val = 46 ∨ n.val = 47 ∨ n.val = 58) := by decide +kernel
  exact h ⟨c.toNat, c.toNat_lt⟩
theorem turncockref1_Escape.cut_one (s : ByteArray) (i : Nat) (h : i < s.size) : s.extract i (i + 1) = ⟨#[s[i]]⟩ := by
  apply ByteArray.ext
  apply Array.toList_inj.1
  rw [Lib.extract_data, List.drop_eq_getElem_cons (by simpa using h), show i + 1 - i = 1 from by omega]
  rfl
theorem turncockref1_Escape.app (l m : List UInt8) : (⟨l.toArray⟩ : ByteArray) ++ ⟨m.toArray⟩ = ⟨(l ++ m).toArray⟩ := by
  apply ByteArray.ext
  simp [ByteArray.data_append]
def turncockref1_Escape.f (a0 : ByteArray) : Option (ByteArray) := if a0.size ≤ 1099511627776 then some ⟨(desc_Escape.all a0.data.toList).toArray⟩ else none
set_option maxHeartbeats 2000000 in
set_option maxRecDepth 100000 in
theorem turncockref1_Escape.calls (s : ByteArray) (r : ByteArray) (w : World) (h : turncockref1_Escape.f s = some r) :
    Calls Try.prog 12 #[.string s] w fun e w' => e = .returned (.string r) ∧ Drawn0 w w' := by
  unfold turncockref1_Escape.f at h
  split at h
  · rename_i hs
    obtain rfl := Option.some.inj h
    clear h
    go_enter Try.func12, Try.ntmps12
    go_wp2
    go_loopw [3, 4] (fun v3 v4 wr => ∃ (k : Nat) (o : ByteArray), v3 = .string o ∧ v4 = .int .i64 k ∧ k ≤ s.size ∧ o.size ≤ 3 * k ∧ Aside0 (o = ⟨(desc_Escape.all (s.data.toList.take k)).toArray⟩) ∧ Aside0 (Drawn0 w wr)) (fun _ v4 _ => s.size - (intOf v4).toNat)
    case atStart => exact ⟨0, ⟨#[]⟩, rfl, rfl, Nat.zero_le _, Nat.le_refl _, ⟨rfl⟩, ⟨Drawn0.refl _⟩⟩
    case round =>
      obtain ⟨k, o, rfl, rfl, hk, ho, HO, HW⟩ := hrel
      by_cases hlt : k < s.size
      · have HT := Aside0.mk (desc_Escape.take_snoc s k hlt)
        have hc1 : s[k].toNat < 256 := s[k].toNat_lt
        have hself := turncockref1_Escape.self_iff s[k]
        have g1 : (0 : Int) ≤ (k : Int) := by omega
        have g2 : (k : Int) ≤ (k : Int) + 1 := by omega
        have g3 : (k : Int) + 1 ≤ (s.size : Int) := by omega
        have g4 : ((k : Int) + 1).toNat = k + 1 := by omega
        have g5 : IntKind.i64.wrap ((k : Int) + 1) = (k : Int) + 1 := by rw [IntKind.wrap_i64]; omega
        have g6 : k + 1 ≤ s.size := by omega
        have g7 : k ≤ k + 1 := by omega
        have x0 := turncockref1_Escape.cut_one s k hlt
        have y0 : (⟨#[s[k]]⟩ : ByteArray).size = 1 := rfl
        have y1 : o.size + 1 ≤ 9223372036854775807 := by omega
        by_cases hL : ((97 ≤ s[k].toNat ∧ s[k].toNat ≤ 122) ∨ (65 ≤ s[k].toNat ∧ s[k].toNat ≤ 90))
        · have HL : Aside0 (decide ((97 ≤ (s[k].toNat : Int) ∧ (s[k].toNat : Int) ≤ 122) ∨ (65 ≤ (s[k].toNat : Int) ∧ (s[k].toNat : Int) ≤ 90)) = true) := ⟨decide_eq_true (by omega)⟩
          have HG : Aside0 (decide (48 ≤ (s[k].toNat : Int) ∧ (s[k].toNat : Int) ≤ 57) = false) := ⟨decide_eq_false (by omega)⟩
          have HX : Aside0 (desc_Escape.one s[k] = [s[k]]) := ⟨by unfold desc_Escape.one; rw [hself, if_pos (decide_eq_true (by omega))]⟩
          clear hL hself
          go_wp2_with (first | (go_at_call 28; (with_reducible refine (turncockref1_letter.calls _ true _ (by rw [turncockref1_Escape.letter]; exact congrArg some HL.out)).mono ?_); rintro e w' ⟨rfl, ⟨nd, rfl⟩⟩) | (go_at_call 29; (with_reducible refine (turncockref1_digit.calls _ false _ (by rw [turncockref1_Escape.digit]; exact congrArg some HG.out)).mono ?_); rintro e w' ⟨rfl, ⟨nd2, rfl⟩⟩))
          go_roundw
          case rel =>
            refine ⟨k + 1, o ++ ⟨#[s[k]]⟩, rfl, by go_num, by omega, by rw [ByteArray.size_append, y0]; omega, ⟨?_⟩, ⟨by repeat (first | exact HW.out | apply Drawn0.step)⟩⟩
            rw [HT.out, desc_Escape.all_snoc, HX.out, HO.out]
            exact turncockref1_Escape.app _ _
          case measure => simp [intOf]; omega
        · have HL : Aside0 (decide ((97 ≤ (s[k].toNat : Int) ∧ (s[k].toNat : Int) ≤ 122) ∨ (65 ≤ (s[k].toNat : Int) ∧ (s[k].toNat : Int) ≤ 90)) = false) := ⟨decide_eq_false (by omega)⟩
          by_cases hG : 48 ≤ s[k].toNat ∧ s[k].toNat ≤ 57
          · have HG : Aside0 (decide (48 ≤ (s[k].toNat : Int) ∧ (s[k].toNat : Int) ≤ 57) = true) := ⟨decide_eq_true (by omega)⟩
            have HX : Aside0 (desc_Escape.one s[k] = [s[k]]) := ⟨by unfold desc_Escape.one; rw [hself, if_pos (decide_eq_true (by omega))]⟩
            clear hL hG hself
            go_wp2_with (first | (go_at_call 28; (with_reducible refine (turncockref1_letter.calls _ false _ (by rw [turncockref1_Escape.letter]; exact congrArg some HL.out)).mono ?_); rintro e w' ⟨rfl, ⟨nd, rfl⟩⟩) | (go_at_call 29; (with_reducible refine (turncockref1_digit.calls _ true _ (by rw [turncockref1_Escape.digit]; exact congrArg some HG.out)).mono ?_); rintro e w' ⟨rfl, ⟨nd2, rfl⟩⟩))
            go_roundw
            case rel =>
              refine ⟨k + 1, o ++ ⟨#[s[k]]⟩, rfl, by go_num, by omega, by rw [ByteArray.size_append, y0]; omega, ⟨?_⟩, ⟨by repeat (first | exact HW.out | apply Drawn0.step)⟩⟩
              rw [HT.out, desc_Escape.all_snoc, HX.out, HO.out]
              exact turncockref1_Escape.app _ _
            case measure => simp [intOf]; omega
          · have HG : Aside0 (decide (48 ≤ (s[k].toNat : Int) ∧ (s[k].toNat : Int) ≤ 57) = false) := ⟨decide_eq_false (by omega)⟩
            by_cases h45 : s[k].toNat = 45
            · have e45 : ((s[k].toNat : Int) == 45) = true := beq_iff_eq.2 (by omega)
              have HX : Aside0 (desc_Escape.one s[k] = [s[k]]) := ⟨by unfold desc_Escape.one; rw [hself, if_pos (decide_eq_true (by omega))]⟩
              clear hL hG hself h45
              go_wp2_with (first | (go_at_call 28; (with_reducible refine (turncockref1_letter.calls _ false _ (by rw [turncockref1_Escape.letter]; exact congrArg some HL.out)).mono ?_); rintro e w' ⟨rfl, ⟨nd, rfl⟩⟩) | (go_at_call 29; (with_reducible refine (turncockref1_digit.calls _ false _ (by rw [turncockref1_Escape.digit]; exact congrArg some HG.out)).mono ?_); rintro e w' ⟨rfl, ⟨nd2, rfl⟩⟩))
              go_roundw
              case rel =>
                refine ⟨k + 1, o ++ ⟨#[s[k]]⟩, rfl, by go_num, by omega, by rw [ByteArray.size_append, y0]; omega, ⟨?_⟩, ⟨by repeat (first | exact HW.out | apply Drawn0.step)⟩⟩
                rw [HT.out, desc_Escape.all_snoc, HX.out, HO.out]
                exact turncockref1_Escape.app _ _
              case measure => simp [intOf]; omega
            · have e45 : ((s[k].toNat : Int) == 45) = false := beq_eq_false_iff_ne.2 (by omega)
              by_cases h95 : s[k].toNat = 95
              · have e95 : ((s[k].toNat : Int) == 95) = true := beq_iff_eq.2 (by omega)
                have HX : Aside0 (desc_Escape.one s[k] = [s[k]]) := ⟨by unfold desc_Escape.one; rw [hself, if_pos (decide_eq_true (by omega))]⟩
                clear hL hG hself h45 h95
                go_wp2_with (first | (go_at_call 28; (with_reducible refine (turncockref1_letter.calls _ false _ (by rw [turncockref1_Escape.letter]; exact congrArg some HL.out)).mono ?_); rintro e w' ⟨rfl, ⟨nd, rfl⟩⟩) | (go_at_call 29; (with_reducible refine (turncockref1_digit.calls _ false _ (by rw [turncockref1_Escape.digit]; exact congrArg some HG.out)).mono ?_); rintro e w' ⟨rfl, ⟨nd2, rfl⟩⟩))
                go_roundw
                case rel =>
                  refine ⟨k + 1, o ++ ⟨#[s[k]]⟩, rfl, by go_num, by omega, by rw [ByteArray.size_append, y0]; omega, ⟨?_⟩, ⟨by repeat (first | exact HW.out | apply Drawn0.step)⟩⟩
                  rw [HT.out, desc_Escape.all_snoc, HX.out, HO.out]
                  exact turncockref1_Escape.app _ _
                case measure => simp [intOf]; omega
              · have e95 : ((s[k].toNat : Int) == 95) = false := beq_eq_false_iff_ne.2 (by omega)
                by_cases h46 : s[k].toNat = 46
                · have e46 : ((s[k].toNat : Int) == 46) = true := beq_iff_eq.2 (by omega)
                  have HX : Aside0 (desc_Escape.one s[k] = [s[k]]) := ⟨by unfold desc_Escape.one; rw [hself, if_pos (decide_eq_true (by omega))]⟩
                  clear hL hG hself h45 h95 h46
                  go_wp2_with (first | (go_at_call 28; (with_reducible refine (turncockref1_letter.calls _ false _ (by rw [turncockref1_Escape.letter]; exact congrArg some HL.out)).mono ?_); rintro e w' ⟨rfl, ⟨nd, rfl⟩⟩) | (go_at_call 29; (with_reducible refine (turncockref1_digit.calls _ false _ (by rw [turncockref1_Escape.digit]; exact congrArg some HG.out)).mono ?_); rintro e w' ⟨rfl, ⟨nd2, rfl⟩⟩))
                  go_roundw
                  case rel =>
                    refine ⟨k + 1, o ++ ⟨#[s[k]]⟩, rfl, by go_num, by omega, by rw [ByteArray.size_append, y0]; omega, ⟨?_⟩, ⟨by repeat (first | exact HW.out | apply Drawn0.step)⟩⟩
                    rw [HT.out, desc_Escape.all_snoc, HX.out, HO.out]
                    exact turncockref1_Escape.app _ _
                  case measure => simp [intOf]; omega
                · have e46 : ((s[k].toNat : Int) == 46) = false := beq_eq_false_iff_ne.2 (by omega)
                  by_cases h47 : s[k].toNat = 47
                  · have e47 : ((s[k].toNat : Int) == 47) = true := beq_iff_eq.2 (by omega)
                    have HX : Aside0 (desc_Escape.one s[k] = [s[k]]) := ⟨by unfold desc_Escape.one; rw [hself, if_pos (decide_eq_true (by omega))]⟩
                    clear hL hG hself h45 h95 h46 h47
                    go_wp2_with (first | (go_at_call 28; (with_reducible refine (turncockref1_letter.calls _ false _ (by rw [turncockref1_Escape.letter]; exact congrArg some HL.out)).mono ?_); rintro e w' ⟨rfl, ⟨nd, rfl⟩⟩) | (go_at_call 29; (with_reducible refine (turncockref1_digit.calls _ false _ (by rw [turncockref1_Escape.digit]; exact congrArg some HG.out)).mono ?_); rintro e w' ⟨rfl, ⟨nd2, rfl⟩⟩))
                    go_roundw
                    case rel =>
                      refine ⟨k + 1, o ++ ⟨#[s[k]]⟩, rfl, by go_num, by omega, by rw [ByteArray.size_append, y0]; omega, ⟨?_⟩, ⟨by repeat (first | exact HW.out | apply Drawn0.step)⟩⟩
                      rw [HT.out, desc_Escape.all_snoc, HX.out, HO.out]
                      exact turncockref1_Escape.app _ _
                    case measure => simp [intOf]; omega
                  · have e47 : ((s[k].toNat : Int) == 47) = false := beq_eq_false_iff_ne.2 (by omega)
                    by_cases h58 : s[k].toNat = 58
                    · have e58 : ((s[k].toNat : Int) == 58) = true := beq_iff_eq.2 (by omega)
                      have HX : Aside0 (desc_Escape.one s[k] = [s[k]]) := ⟨by unfold desc_Escape.one; rw [hself, if_pos (decide_eq_true (by omega))]⟩
                      clear hL hG hself h45 h95 h46 h47 h58
                      go_wp2_with (first | (go_at_call 28; (with_reducible refine (turncockref1_letter.calls _ false _ (by rw [turncockref1_Escape.letter]; exact congrArg some HL.out)).mono ?_); rintro e w' ⟨rfl, ⟨nd, rfl⟩⟩) | (go_at_call 29; (with_reducible refine (turncockref1_digit.calls _ false _ (by rw [turncockref1_Escape.digit]; exact congrArg some HG.out)).mono ?_); rintro e w' ⟨rfl, ⟨nd2, rfl⟩⟩))
                      go_roundw
                      case rel =>
                        refine ⟨k + 1, o ++ ⟨#[s[k]]⟩, rfl, by go_num, by omega, by rw [ByteArray.size_append, y0]; omega, ⟨?_⟩, ⟨by repeat (first | exact HW.out | apply Drawn0.step)⟩⟩
                        rw [HT.out, desc_Escape.all_snoc, HX.out, HO.out]
                        exact turncockref1_Escape.app _ _
                      case measure => simp [intOf]; omega
                    · have e58 : ((s[k].toNat : Int) == 58) = false := beq_eq_false_iff_ne.2 (by omega)
                      have HX : Aside0 (desc_Escape.one s[k] = [37, desc_Escape.HEX.getD (s[k].toNat / 16) 0, desc_Escape.HEX.getD (s[k].toNat % 16) 0]) := ⟨by unfold desc_Escape.one; rw [hself, if_neg (by simp; omega)]⟩
                      clear hL hG hself h45 h95 h46 h47 h58
                      have f0 : (0 : Int) ≤ (s[k].toNat : Int) / 16 := by omega
                      have f1 : (s[k].toNat : Int) / 16 + 1 ≤ 16 := by omega
                      have f1a : (s[k].toNat : Int) / 16 ≤ 16 := by omega
                      have f1b : (s[k].toNat : Int) / 16 ≤ (s[k].toNat : Int) / 16 + 1 := by omega
                      have f2 : (0 : Int) ≤ (s[k].toNat : Int) % 16 := by omega
                      have f3 : (s[k].toNat : Int) % 16 + 1 ≤ 16 := by omega
                      have f3b : (s[k].toNat : Int) % 16 ≤ (s[k].toNat : Int) % 16 + 1 := by omega
                      have f4 : (0 : Int) ≤ (s[k].toNat : Int) / 16 + 1 := by omega
                      have f5 : (0 : Int) ≤ (s[k].toNat : Int) % 16 + 1 := by omega
                      have f6 : (s[k].toNat : Int) % 16 ≤ 16 := by omega
                      have w0 : IntKind.u8.wrap (Int.tdiv (s[k].toNat : Int) 16) = (s[k].toNat : Int) / 16 := by rw [IntKind.wrap_u8, Int.tdiv_eq_ediv_of_nonneg (by omega)]; omega
                      have w0a : IntKind.u8.wrap ((s[k].toNat : Int) / 16) = (s[k].toNat : Int) / 16 := by rw [IntKind.wrap_u8]; omega
                      have w0b : Int.tmod (s[k].toNat : Int) 16 = (s[k].toNat : Int) % 16 := by rw [Int.tmod_eq_emod_of_nonneg (by omega)]
                      have w0c : IntKind.u8.wrap ((s[k].toNat : Int) % 16) = (s[k].toNat : Int) % 16 := by rw [IntKind.wrap_u8]; omega
                      have w1 : IntKind.u8.wrap ((s[k].toNat : Int) / 16 + 1) = (s[k].toNat : Int) / 16 + 1 := by rw [IntKind.wrap_u8]; omega
                      have w2 : IntKind.u8.wrap ((s[k].toNat : Int) % 16 + 1) = (s[k].toNat : Int) % 16 + 1 := by rw [IntKind.wrap_u8]; omega
                      have w3 : ((s[k].toNat : Int) / 16).toNat = s[k].toNat / 16 := by omega
                      have w4 : ((s[k].toNat : Int) / 16 + 1).toNat = s[k].toNat / 16 + 1 := by omega
                      have w5 : ((s[k].toNat : Int) % 16).toNat = s[k].toNat % 16 := by omega
                      have w6 : ((s[k].toNat : Int) % 16 + 1).toNat = s[k].toNat % 16 + 1 := by omega
                      have x1 := desc_Escape.hexcut ⟨s[k].toNat / 16, by omega⟩
                      have x2 := desc_Escape.hexcut ⟨s[k].toNat % 16, by omega⟩
                      simp only [] at x1 x2
                      generalize desc_Escape.HEX.getD (s[k].toNat / 16) 0 = b1 at x1 HX
                      generalize desc_Escape.HEX.getD (s[k].toNat % 16) 0 = b2 at x2 HX
                      have z1 : (⟨#[37]⟩ : ByteArray).size = 1 := rfl
                      have z2 : (⟨#[b1]⟩ : ByteArray).size = 1 := rfl
                      have z3 : (⟨#[b2]⟩ : ByteArray).size = 1 := rfl
                      have z7 : o.size + 1 + 1 ≤ 9223372036854775807 := by omega
                      have z8 : o.size + 1 + 1 + 1 ≤ 9223372036854775807 := by omega
                      go_wp2_with (first | (go_at_call 28; (with_reducible refine (turncockref1_letter.calls _ false _ (by rw [turncockref1_Escape.letter]; exact congrArg some HL.out)).mono ?_); rintro e w' ⟨rfl, ⟨nd, rfl⟩⟩) | (go_at_call 29; (with_reducible refine (turncockref1_digit.calls _ false _ (by rw [turncockref1_Escape.digit]; exact congrArg some HG.out)).mono ?_); rintro e w' ⟨rfl, ⟨nd2, rfl⟩⟩))
                      go_quiet (fail)
                      go_wp2
                      go_roundw
                      case rel =>
                        refine ⟨k + 1, o ++ ⟨#[37]⟩ ++ ⟨#[b1]⟩ ++ ⟨#[b2]⟩, rfl, by go_num, by omega, by rw [ByteArray.size_append, ByteArray.size_append, ByteArray.size_append, z1, z2, z3]; omega, ⟨?_⟩, ⟨by repeat (first | exact HW.out | apply Drawn0.step)⟩⟩
                        rw [HT.out, desc_Escape.all_snoc, HX.out, HO.out]
                        rw [show (⟨#[37]⟩ : ByteArray) = ⟨[(37 : UInt8)].toArray⟩ from rfl, show (⟨#[b1]⟩ : ByteArray) = ⟨[b1].toArray⟩ from rfl, show (⟨#[b2]⟩ : ByteArray) = ⟨[b2].toArray⟩ from rfl, turncockref1_Escape.app, turncockref1_Escape.app, turncockref1_Escape.app, List.append_assoc, List.append_assoc]
                        rfl
                      case measure => simp [intOf]; omega
      · have e : s.data.toList.take k = s.data.toList := List.take_of_length_le (by simp; omega)
        rw [e] at HO
        clear e
        go_wp2
        go_ret
        exact ⟨by rw [← HO.out]; rfl, by repeat (first | exact HW.out | apply Drawn0.step)⟩
  · cases h
def turncockmake_Domains.f  : Option (List ByteArray) := some (([(⟨#[115, 104, 111, 112]⟩ : ByteArray), (⟨#[112, 97, 121]⟩ : ByteArray), (⟨#[97, 124, 98]⟩ : ByteArray)] : List ByteArray))
set_option maxHeartbeats 8000000 in
set_option maxRecDepth 100000 in
theorem turncockmake_Domains.calls  (r : List ByteArray) (w : World) (h : turncockmake_Domains.f  = some r) :
    Calls Try.prog 19 #[] w fun e w' => ∃ v0_ : Value, e = .returned (v0_) ∧ Kd.R Kd.string 9 w' w.heap.size (fun _ => True) v0_ r ∧ Below w.heap.size w w' := by
  have HB := Aside0.mk (Below.refl w.heap.size w)
  have H : (some (([(⟨#[115, 104, 111, 112]⟩ : ByteArray), (⟨#[112, 97, 121]⟩ : ByteArray), (⟨#[97, 124, 98]⟩ : ByteArray)] : List ByteArray))) = some r := h
  clear h
  obtain ⟨y238, hy238⟩ : ∃ y_ : List ByteArray, y_ = (([(⟨#[115, 104, 111, 112]⟩ : ByteArray), (⟨#[112, 97, 121]⟩ : ByteArray), (⟨#[97, 124, 98]⟩ : ByteArray)] : List ByteArray)) := ⟨_, rfl⟩
  replace H : (some y238) = some r := by first | (rw [hy238]; with_reducible exact H) | (have H2_ := (Option.bind_some _ _).symm.trans H; rw [hy238]; with_reducible exact H2_) | (have H2_ := (Option.bind_some _ _).symm.trans H; with_reducible exact H2_) | with_reducible exact H | (rw [hy238]; exact H) | exact H
  have Ny238 := Aside0.mk hy238
  clear hy238
  obtain rfl := Option.some.inj H
  go_enter Try.func19, Try.ntmps19
  go_wp2_with (first | ((with_reducible refine gate_dst (N := 1) rfl ?_); refine Kd.R_lit Kd.string _ 9 ?hg (N := 1) ?hd (xs := ([(⟨#[115, 104, 111, 112]⟩ : ByteArray), (⟨#[112, 97, 121]⟩ : ByteArray), (⟨#[97, 124, 98]⟩ : ByteArray)] : List ByteArray)) (inner := [.string (⟨#[115, 104, 111, 112]⟩ : ByteArray), .string (⟨#[112, 97, 121]⟩ : ByteArray), .string (⟨#[97, 124, 98]⟩ : ByteArray)]) (ok := fun _ => True) (okp := fun _ => True) ?hr ?hp (fun _ hk => hk) trivial (Below.refl _ _) (Nat.le_refl _) (by simp) ?_; (case hd => rfl); (case hg => rfl); (case hr => first | (go_simp; done) | (go_simp; rfl)); (case hp => exact (Reps.one (show Kd.M Kd.string _ _ _ (⟨#[115, 104, 111, 112]⟩ : ByteArray) [.string (⟨#[115, 104, 111, 112]⟩ : ByteArray)] from rfl) (Reps.one (show Kd.M Kd.string _ _ _ (⟨#[112, 97, 121]⟩ : ByteArray) [.string (⟨#[112, 97, 121]⟩ : ByteArray)] from rfl) (Reps.one (show Kd.M Kd.string _ _ _ (⟨#[97, 124, 98]⟩ : ByteArray) [.string (⟨#[97, 124, 98]⟩ : ByteArray)] from rfl) (Reps.none _ _))))); intro v239 w1 ho2 hb hg_ hnew_; clear hg_ hnew_; (first | rw [← Ny238.out] at ho2 | (simp only [Int.reduceToNat] at ho2; rw [← Ny238.out] at ho2)); have n0_ := Aside0.mk (Kd.R_lower ho2 (below_size (by repeat (first | (with_reducible first | exact HB.out | apply below_alloc | apply pw_below_drewN | apply below_drew1) | exact HB.out)))); have n1_ := Aside0.mk (below_step (by repeat (first | (with_reducible first | exact HB.out | apply below_alloc | apply pw_below_drewN | apply below_drew1) | exact HB.out)) hb); clear HB; have HO240 := n0_; have HB := n1_; clear n0_ n1_; clear hb ho2))
  go_ret
  exact ⟨_, by first | rfl | (simp [errW_none, errW_some] <;> rfl) | (simp [*, errW_none, errW_some] <;> rfl), by (with_reducible repeat (first | apply Kd.R_alloc | apply Kd.R_drewN | apply Kd.R_drew)); exact HO240.out, by repeat (first | (with_reducible first | exact HB.out | apply below_alloc | apply pw_below_drewN | apply below_drew1) | exact HB.out)⟩
def turncockref1_ten.l0 : Nat → Int → Int → Int → Option (Int)
  | 0, _, _, _ => none
  | k + 1, x0, x3, x4 => if x4 < x0 then (turncockref1_ten.l0 k x0 (wrap64 (x3 * 10)) (wrap64 (x4 + 1))) else (some x3)
def turncockref1_ten.f (k : Nat) (a0 : Int) : Option (Int) := turncockref1_ten.l0 k a0 1 0
set_option maxHeartbeats 8000000 in
set_option maxRecDepth 100000 in
theorem turncockref1_ten.calls (k : Nat) (a0 : Int) (r : Int) (w : World) (h : turncockref1_ten.f k a0 = some r) :
    Calls Try.prog 53 #[.int .i64 a0] w fun e w' => e = .returned (.int .i64 r) ∧ Drawn0 w w' := by
  have H : (turncockref1_ten.l0 k a0 1 0) = some r := h
  clear h
  have H' := Aside0.mk H
  clear H
  go_enter Try.func53, Try.ntmps53
  go_wp2
  go_loopg [3, 4] k (fun kq v3 v4 w' => ∃ (x3_1 : Int) (x4_1 : Int), v3 = .int .i64 x3_1 ∧ v4 = .int .i64 x4_1 ∧ Aside0 (turncockref1_ten.l0 kq a0 x3_1 x4_1 = some r) ∧ Aside0 (kq ≤ k) ∧ Drawn0 w w')
  case atStart => exact ⟨(1), (0), (by first | rfl | (simp; done) | (simp [*]; done)), (by first | rfl | (simp; done) | (simp [*]; done)), H', ⟨Nat.le_refl _⟩, by repeat (first | exact Drawn0.refl _ | apply Drawn0.step)⟩
  case round =>
    clear H'
    obtain ⟨x3_1, x4_1, rfl, rfl, HA, HK1, ⟨m1, rfl⟩⟩ := hrel
    cases gk with
    | zero => exact absurd HA.out (by simp [turncockref1_ten.l0])
    | succ k1 =>
      have H := HA.out
      clear HA
      simp only [turncockref1_ten.l0] at H
      by_cases c2 : x4_1 < a0
      · rw [if_pos c2] at H
        have c2b0 : decide (x4_1 < a0) = true := decide_eq_true c2
        clear c2
        have H' := Aside0.mk H
        clear H
        go_wp2
        go_roundg k1
        case measure => have := HK1.out; omega
        case rel => exact ⟨(wrap64 (x3_1 * 10)), (wrap64 (x4_1 + 1)), (by first | rfl | (simp; done) | (simp [*]; done)), (by first | rfl | (simp; done) | (simp [*]; done)), H', ⟨by have := HK1.out; omega⟩, by repeat (first | exact Drawn0.refl _ | apply Drawn0.step)⟩
      · rw [if_neg c2] at H
        have c2b0 : decide (x4_1 < a0) = false := decide_eq_false c2
        clear c2
        obtain rfl := Option.some.inj H
        go_wp2
        go_ret
        exact ⟨by first | rfl | (simp; done) | (simp [*]; done), by repeat (first | exact Drawn0.refl _ | apply Drawn0.step)⟩
end Go.Proofs.Ytipbigdpannlcaa.PTrieFits
