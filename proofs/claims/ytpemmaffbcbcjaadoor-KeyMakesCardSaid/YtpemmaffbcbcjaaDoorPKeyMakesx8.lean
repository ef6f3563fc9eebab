-- WRITTEN BY THIS SESSION'S mprint.py upon the print: some functions are proved by hand
import Derived.Test.YtpemmaffbcbcjaaDoorPKeyMakesx0
import Derived.Test.YtpemmaffbcbcjaaDoorPKeyMakesx2
import Derived.Test.YtpemmaffbcbcjaaDoorPKeyMakesx3
import Derived.Test.YtpemmaffbcbcjaaDoorPKeyMakesx7
namespace Go.Proofs.YtpemmaffbcbcjaaDoor.PKeyMakes
open Go.RowKit Go.Proofs.YtpemmaffbcbcjaaDoorW.PrintWords Go.Proofs.YtpemmaffbcbcjaaDoorW.PrintLast Go.Proofs.YtpemmaffbcbcjaaDoorW.PrintMore
attribute [local go_sem] max2_int min2_int max_two min_two max_three min_three max_four min_four   -- for this text's walks alone
set_option linter.unusedVariables false
set_option linter.unusedSimpArgs false

/-! ### turncockref1_Escape: function 24 (my own) -/
theorem turncockref1_Escape.letter (c : Int) : turncockref1_letter.f c = some (decide ((97 ≤ c ∧ c ≤ 122) ∨ (65 ≤ c ∧ c ≤ 90))) := by
  unfold turncockref1_letter.f
  by_cases h1 : c ≥ 97 <;> by_cases h2 : c ≤ 122 <;> by_cases h3 : c ≥ 65 <;> by_cases h4 : c ≤ 90 <;> simp [h1, h2, h3, h4] <;> omega
theorem turncockref1_Escape.digit (c : Int) : turncockref1_digit.f c = some (decide (48 ≤ c ∧ c ≤ 57)) := by
  unfold turncockref1_digit.f
  by_cases h1 : c ≥ 48 <;> by_cases h2 : c ≤ 57 <;> simp [h1, h2] <;> omega
theorem turncockref1_Escape.self_iff (c : UInt8) : desc_itself.self (c.toNat : Int) = decide (((97 ≤ c.toNat ∧ c.toNat ≤ 122) ∨ (65 ≤ c.toNat ∧ c.toNat ≤ 90)) ∨ (48 ≤ c.toNat ∧ c.toNat ≤ 57) ∨ c.toNat = 45 ∨ c.toNat = 95 ∨ c.toNat = 46 ∨ c.toNat = 47 ∨ c.toNat = 58) := by
  have h : ∀ n : Fin 256, desc_itself.self (n.val : Int) = decide (((97 ≤ n.val ∧ n.val ≤ 122) ∨ (65 ≤ n.val ∧ n.val ≤ 90)) ∨ (48 ≤ n.val ∧ n.val ≤ 57) ∨ n.val = 45 ∨ n.val = 95 ∨ n.val = 46 ∨ n.val = 47 ∨ n.val = 58) := by decide +kernel
  exact h ⟨c.toNat, c.toNat_lt⟩
theorem turncockref1_Escape.cut_one (s : ByteArray) (i : Nat) (h : i < s.size) : s.extract i (i + 1) = ⟨#[s[i]]⟩ := by
  apply ByteArray.ext
  apply Array.toList_inj.1
  rw [Lib.extract_data, List.drop_eq_getElem_cons (by simpa using h), show i + 1 - i = 1 from by omega]
  rfl
theorem turncockref1_Escape.app (l m : List UInt8) : (⟨l.toArray⟩ : ByteArray) ++ ⟨m.toArray⟩ = ⟨(l ++ m).toArray⟩ := by
  apply ByteArray.ext
  simp [ByteArray.data_append]
def turncockref1_Escape.f (a0 : ByteArray) : Option (ByteArray) := if a0.size ≤ 1099511627776 then some ⟨(desc_Escape.all a0.data.toList).toArray⟩ else none
set_option maxHeartbeats 2000000 in
set_option maxRecDepth 100000 in
theorem turncockref1_Escape.calls (s : ByteArray) (r : ByteArray) (w : World) (h : turncockref1_Escape.f s = some r) :
    Calls Tryd.prog 24 #[.string s] w fun e w' => e = .returned (.string r) ∧ Drawn0 w w' := by
  unfold turncockref1_Escape.f at h
  split at h
  · rename_i hs
    obtain rfl := Option.some.inj h
    clear h
    go_enter Tryd.func24, Tryd.ntmps24
    go_wp2
    go_loopw [3, 4] (fun v3 v4 wr => ∃ (k : Nat) (o : ByteArray), v3 = .string o ∧ v4 = .int .i64 k ∧ k ≤ s.size ∧ o.size ≤ 3 * k ∧ Aside0 (o = ⟨(desc_Escape.all (s.data.toList.take k)).toArray⟩) ∧ Aside0 (Drawn0 w wr)) (fun _ v4 _ => s.size - (intOf v4).toNat)
    case atStart => exact ⟨0, ⟨#[]⟩, rfl, rfl, Nat.zero_le _, Nat.le_refl _, ⟨rfl⟩, ⟨Drawn0.refl _⟩⟩
    case round =>
      obtain ⟨k, o, rfl, rfl, hk, ho, HO, HW⟩ := hrel
      by_cases hlt : k < s.size
      · have HT := Aside0.mk (desc_Escape.take_snoc s k hlt)
        have hc1 : s[k].toNat < 256 := s[k].toNat_lt
        have hself := turncockref1_Escape.self_iff s[k]
        have g1 : (0 : Int) ≤ (k : Int) := by omega
        have g2 : (k : Int) ≤ (k : Int) + 1 := by omega
        have g3 : (k : Int) + 1 ≤ (s.size : Int) := by omega
        have g4 : ((k : Int) + 1).toNat = k + 1 := by omega
        have g5 : IntKind.i64.wrap ((k : Int) + 1) = (k : Int) + 1 := by rw [IntKind.wrap_i64]; omega
        have g6 : k + 1 ≤ s.size := by omega
        have g7 : k ≤ k + 1 := by omega
        have x0 := turncockref1_Escape.cut_one s k hlt
        have y0 : (⟨#[s[k]]⟩ : ByteArray).size = 1 := rfl
        have y1 : o.size + 1 ≤ 9223372036854775807 := by omega
        by_cases hL : ((97 ≤ s[k].toNat ∧ s[k].toNat ≤ 122) ∨ (65 ≤ s[k].toNat ∧ s[k].toNat ≤ 90))
        · have HL : Aside0 (decide ((97 ≤ (s[k].toNat : Int) ∧ (s[k].toNat : Int) ≤ 122) ∨ (65 ≤ (s[k].toNat : Int) ∧ (s[k].toNat : Int) ≤ 90)) = true) := ⟨decide_eq_true (by omega)⟩
          have HG : Aside0 (decide (48 ≤ (s[k].toNat : Int) ∧ (s[k].toNat : Int) ≤ 57) = false) := ⟨decide_eq_false (by omega)⟩
          have HX : Aside0 (desc_Escape.one s[k] = [s[k]]) := ⟨by unfold desc_Escape.one; rw [hself, if_pos (decide_eq_true (by omega))]⟩
          clear hL hself
          go_wp2_with (first | (go_at_call 47; (with_reducible refine (turncockref1_letter.calls _ true _ (by rw [turncockref1_Escape.letter]; exact congrArg some HL.out)).mono ?_); rintro e w' ⟨rfl, ⟨nd, rfl⟩⟩) | (go_at_call 48; (with_reducible refine (turncockref1_digit.calls _ false _ (by rw [turncockref1_Escape.digit]; exact congrArg some HG.out)).mono ?_); rintro e w' ⟨rfl, ⟨nd2, rfl⟩⟩))
          go_roundw
          case rel =>
            refine ⟨k + 1, o ++ ⟨#[s[k]]⟩, rfl, by go_num, by omega, by rw [ByteArray.size_append, y0]; omega, ⟨?_⟩, ⟨by repeat (first | exact HW.out | apply Drawn0.step)⟩⟩
            rw [HT.out, desc_Escape.all_snoc, HX.out, HO.out]
            exact turncockref1_Escape.app _ _
          case measure => simp [intOf]; omega
        · have HL : Aside0 (decide ((97 ≤ (s[k].toNat : Int) ∧ (s[k].toNat : Int) ≤ 122) ∨ (65 ≤ (s[k].toNat : Int) ∧ (s[k].toNat : Int) ≤ 90)) = false) := ⟨decide_eq_false (by omega)⟩
          by_cases hG : 48 ≤ s[k].toNat ∧ s[k].toNat ≤ 57
          · have HG : Aside0 (decide (48 ≤ (s[k].toNat : Int) ∧ (s[k].toNat : Int) ≤ 57) = true) := ⟨decide_eq_true (by omega)⟩
            have HX : Aside0 (desc_Escape.one s[k] = [s[k]]) := ⟨by unfold desc_Escape.one; rw [hself, if_pos (decide_eq_true (by omega))]⟩
            clear hL hG hself
            go_wp2_with (first | (go_at_call 47; (with_reducible refine (turncockref1_letter.calls _ false _ (by rw [turncockref1_Escape.letter]; exact congrArg some HL.out)).mono ?_); rintro e w' ⟨rfl, ⟨nd, rfl⟩⟩) | (go_at_call 48; (with_reducible refine (turncockref1_digit.calls _ true _ (by rw [turncockref1_Escape.digit]; exact congrArg some HG.out)).mono ?_); rintro e w' ⟨rfl, ⟨nd2, rfl⟩⟩))
            go_roundw
            case rel =>
              refine ⟨k + 1, o ++ ⟨#[s[k]]⟩, rfl, by go_num, by omega, by rw [ByteArray.size_append, y0]; omega, ⟨?_⟩, ⟨by repeat (first | exact HW.out | apply Drawn0.step)⟩⟩
              rw [HT.out, desc_Escape.all_snoc, HX.out, HO.out]
              exact turncockref1_Escape.app _ _
            case measure => simp [intOf]; omega
          · have HG : Aside0 (decide (48 ≤ (s[k].toNat : Int) ∧ (s[k].toNat : Int) ≤ 57) = false) := ⟨decide_eq_false (by omega)⟩
            by_cases h45 : s[k].toNat = 45
            · have e45 : ((s[k].toNat : Int) == 45) = true := beq_iff_eq.2 (by omega)
              have HX : Aside0 (desc_Escape.one s[k] = [s[k]]) := ⟨by unfold desc_Escape.one; rw [hself, if_pos (decide_eq_true (by omega))]⟩
              clear hL hG hself h45
              go_wp2_with (first | (go_at_call 47; (with_reducible refine (turncockref1_letter.calls _ false _ (by rw [turncockref1_Escape.letter]; exact congrArg some HL.out)).mono ?_); rintro e w' ⟨rfl, ⟨nd, rfl⟩⟩) | (go_at_call 48; (with_reducible refine (turncockref1_digit.calls _ false _ (by rw [turncockref1_Escape.digit]; exact congrArg some HG.out)).mono ?_); rintro e w' ⟨rfl, ⟨nd2, rfl⟩⟩))
              go_roundw
              case rel =>
                refine ⟨k + 1, o ++ ⟨#[s[k]]⟩, rfl, by go_num, by omega, by rw [ByteArray.size_append, y0]; omega, ⟨?_⟩, ⟨by repeat (first | exact HW.out | apply Drawn0.step)⟩⟩
                rw [HT.out, desc_Escape.all_snoc, HX.out, HO.out]
                exact turncockref1_Escape.app _ _
              case measure => simp [intOf]; omega
            · have e45 : ((s[k].toNat : Int) == 45) = false := beq_eq_false_iff_ne.2 (by omega)
              by_cases h95 : s[k].toNat = 95
              · have e95 : ((s[k].toNat : Int) == 95) = true := beq_iff_eq.2 (by omega)
                have HX : Aside0 (desc_Escape.one s[k] = [s[k]]) := ⟨by unfold desc_Escape.one; rw [hself, if_pos (decide_eq_true (by omega))]⟩
                clear hL hG hself h45 h95
                go_wp2_with (first | (go_at_call 47; (with_reducible refine (turncockref1_letter.calls _ false _ (by rw [turncockref1_Escape.letter]; exact congrArg some HL.out)).mono ?_); rintro e w' ⟨rfl, ⟨nd, rfl⟩⟩) | (go_at_call 48; (with_reducible refine (turncockref1_digit.calls _ false _ (by rw [turncockref1_Escape.digit]; exact congrArg some HG.out)).mono ?_); rintro e w' ⟨rfl, ⟨nd2, rfl⟩⟩))
                go_roundw
                case rel =>
                  refine ⟨k + 1, o ++ ⟨#[s[k]]⟩, rfl, by go_num, by omega, by rw [ByteArray.size_append, y0]; omega, ⟨?_⟩, ⟨by repeat (first | exact HW.out | apply Drawn0.step)⟩⟩
                  rw [HT.out, desc_Escape.all_snoc, HX.out, HO.out]
                  exact turncockref1_Escape.app _ _
                case measure => simp [intOf]; omega
              · have e95 : ((s[k].toNat : Int) == 95) = false := beq_eq_false_iff_ne.2 (by omega)
                by_cases h46 : s[k].toNat = 46
                · have e46 : ((s[k].toNat : Int) == 46) = true := beq_iff_eq.2 (by omega)
                  have HX : Aside0 (desc_Escape.one s[k] = [s[k]]) := ⟨by unfold desc_Escape.one; rw [hself, if_pos (decide_eq_true (by omega))]⟩
                  clear hL hG hself h45 h95 h46
                  go_wp2_with (first | (go_at_call 47; (with_reducible refine (turncockref1_letter.calls _ false _ (by rw [turncockref1_Escape.letter]; exact congrArg some HL.out)).mono ?_); rintro e w' ⟨rfl, ⟨nd, rfl⟩⟩) | (go_at_call 48; (with_reducible refine (turncockref1_digit.calls _ false _ (by rw [turncockref1_Escape.digit]; exact congrArg some HG.out)).mono ?_); rintro e w' ⟨rfl, ⟨nd2, rfl⟩⟩))
                  go_roundw
                  case rel =>
                    refine ⟨k + 1, o ++ ⟨#[s[k]]⟩, rfl, by go_num, by omega, by rw [ByteArray.size_append, y0]; omega, ⟨?_⟩, ⟨by repeat (first | exact HW.out | apply Drawn0.step)⟩⟩
                    rw [HT.out, desc_Escape.all_snoc, HX.out, HO.out]
                    exact turncockref1_Escape.app _ _
                  case measure => simp [intOf]; omega
                · have e46 : ((s[k].toNat : Int) == 46) = false := beq_eq_false_iff_ne.2 (by omega)
                  by_cases h47 : s[k].toNat = 47
                  · have e47 : ((s[k].toNat : Int) == 47) = true := beq_iff_eq.2 (by omega)
                    have HX : Aside0 (desc_Escape.one s[k] = [s[k]]) := ⟨by unfold desc_Escape.one; rw [hself, if_pos (decide_eq_true (by omega))]⟩
                    clear hL hG hself h45 h95 h46 h47
                    go_wp2_with (first | (go_at_call 47; (with_reducible refine (turncockref1_letter.calls _ false _ (by rw [turncockref1_Escape.letter]; exact congrArg some HL.out)).mono ?_); rintro e w' ⟨rfl, ⟨nd, rfl⟩⟩) | (go_at_call 48; (with_reducible refine (turncockref1_digit.calls _ false _ (by rw [turncockref1_Escape.digit]; exact congrArg some HG.out)).mono ?_); rintro e w' ⟨rfl, ⟨nd2, rfl⟩⟩))
                    go_roundw
                    case rel =>
                      refine ⟨k + 1, o ++ ⟨#[s[k]]⟩, rfl, by go_num, by omega, by rw [ByteArray.size_append, y0]; omega, ⟨?_⟩, ⟨by repeat (first | exact HW.out | apply Drawn0.step)⟩⟩
                      rw [HT.out, desc_Escape.all_snoc, HX.out, HO.out]
                      exact turncockref1_Escape.app _ _
                    case measure => simp [intOf]; omega
                  · have e47 : ((s[k].toNat : Int) == 47) = false := beq_eq_false_iff_ne.2 (by omega)
                    by_cases h58 : s[k].toNat = 58
                    · have e58 : ((s[k].toNat : Int) == 58) = true := beq_iff_eq.2 (by omega)
                      have HX : Aside0 (desc_Escape.one s[k] = [s[k]]) := ⟨by unfold desc_Escape.one; rw [hself, if_pos (decide_eq_true (by omega))]⟩
                      clear hL hG hself h45 h95 h46 h47 h58
                      go_wp2_with (first | (go_at_call 47; (with_reducible refine (turncockref1_letter.calls _ false _ (by rw [turncockref1_Escape.letter]; exact congrArg some HL.out)).mono ?_); rintro e w' ⟨rfl, ⟨nd, rfl⟩⟩) | (go_at_call 48; (with_reducible refine (turncockref1_digit.calls _ false _ (by rw [turncockref1_Escape.digit]; exact congrArg some HG.out)).mono ?_); rintro e w' ⟨rfl, ⟨nd2, rfl⟩⟩))
                      go_roundw
                      case rel =>
                        refine ⟨k + 1, o ++ ⟨#[s[k]]⟩, rfl, by go_num, by omega, by rw [ByteArray.size_append, y0]; omega, ⟨?_⟩, ⟨by repeat (first | exact HW.out | apply Drawn0.step)⟩⟩
                        rw [HT.out, desc_Escape.all_snoc, HX.out, HO.out]
                        exact turncockref1_Escape.app _ _
                      case measure => simp [intOf]; omega
                    · have e58 : ((s[k].toNat : Int) == 58) = false := beq_eq_false_iff_ne.2 (by omega)
                      have HX : Aside0 (desc_Escape.one s[k] = [37, desc_Escape.HEX.getD (s[k].toNat / 16) 0, desc_Escape.HEX.getD (s[k].toNat % 16) 0]) := ⟨by unfold desc_Escape.one; rw [hself, if_neg (by simp; omega)]⟩
                      clear hL hG hself h45 h95 h46 h47 h58
                      have f0 : (0 : Int) ≤ (s[k].toNat : Int) / 16 := by omega
                      have f1 : (s[k].toNat : Int) / 16 + 1 ≤ 16 := by omega
                      have f1a : (s[k].toNat : Int) / 16 ≤ 16 := by omega
                      have f1b : (s[k].toNat : Int) / 16 ≤ (s[k].toNat : Int) / 16 + 1 := by omega
                      have f2 : (0 : Int) ≤ (s[k].toNat : Int) % 16 := by omega
                      have f3 : (s[k].toNat : Int) % 16 + 1 ≤ 16 := by omega
                      have f3b : (s[k].toNat : Int) % 16 ≤ (s[k].toNat : Int) % 16 + 1 := by omega
                      have f4 : (0 : Int) ≤ (s[k].toNat : Int) / 16 + 1 := by omega
                      have f5 : (0 : Int) ≤ (s[k].toNat : Int) % 16 + 1 := by omega
                      have f6 : (s[k].toNat : Int) % 16 ≤ 16 := by omega
                      have w0 : IntKind.u8.wrap (Int.tdiv (s[k].toNat : Int) 16) = (s[k].toNat : Int) / 16 := by rw [IntKind.wrap_u8, Int.tdiv_eq_ediv_of_nonneg (by omega)]; omega
                      have w0a : IntKind.u8.wrap ((s[k].toNat : Int) / 16) = (s[k].toNat : Int) / 16 := by rw [IntKind.wrap_u8]; omega
                      have w0b : Int.tmod (s[k].toNat : Int) 16 = (s[k].toNat : Int) % 16 := by rw [Int.tmod_eq_emod_of_nonneg (by omega)]
                      have w0c : IntKind.u8.wrap ((s[k].toNat : Int) % 16) = (s[k].toNat : Int) % 16 := by rw [IntKind.wrap_u8]; omega
                      have w1 : IntKind.u8.wrap ((s[k].toNat : Int) / 16 + 1) = (s[k].toNat : Int) / 16 + 1 := by rw [IntKind.wrap_u8]; omega
                      have w2 : IntKind.u8.wrap ((s[k].toNat : Int) % 16 + 1) = (s[k].toNat : Int) % 16 + 1 := by rw [IntKind.wrap_u8]; omega
                      have w3 : ((s[k].toNat : Int) / 16).toNat = s[k].toNat / 16 := by omega
                      have w4 : ((s[k].toNat : Int) / 16 + 1).toNat = s[k].toNat / 16 + 1 := by omega
                      have w5 : ((s[k].toNat : Int) % 16).toNat = s[k].toNat % 16 := by omega
                      have w6 : ((s[k].toNat : Int) % 16 + 1).toNat = s[k].toNat % 16 + 1 := by omega
                      have x1 := desc_Escape.hexcut ⟨s[k].toNat / 16, by omega⟩
                      have x2 := desc_Escape.hexcut ⟨s[k].toNat % 16, by omega⟩
                      simp only [] at x1 x2
                      generalize desc_Escape.HEX.getD (s[k].toNat / 16) 0 = b1 at x1 HX
                      generalize desc_Escape.HEX.getD (s[k].toNat % 16) 0 = b2 at x2 HX
                      have z1 : (⟨#[37]⟩ : ByteArray).size = 1 := rfl
                      have z2 : (⟨#[b1]⟩ : ByteArray).size = 1 := rfl
                      have z3 : (⟨#[b2]⟩ : ByteArray).size = 1 := rfl
                      have z7 : o.size + 1 + 1 ≤ 9223372036854775807 := by omega
                      have z8 : o.size + 1 + 1 + 1 ≤ 9223372036854775807 := by omega
                      go_wp2_with (first | (go_at_call 47; (with_reducible refine (turncockref1_letter.calls _ false _ (by rw [turncockref1_Escape.letter]; exact congrArg some HL.out)).mono ?_); rintro e w' ⟨rfl, ⟨nd, rfl⟩⟩) | (go_at_call 48; (with_reducible refine (turncockref1_digit.calls _ false _ (by rw [turncockref1_Escape.digit]; exact congrArg some HG.out)).mono ?_); rintro e w' ⟨rfl, ⟨nd2, rfl⟩⟩))
                      go_quiet (fail)
                      go_wp2
                      go_roundw
                      case rel =>
                        refine ⟨k + 1, o ++ ⟨#[37]⟩ ++ ⟨#[b1]⟩ ++ ⟨#[b2]⟩, rfl, by go_num, by omega, by rw [ByteArray.size_append, ByteArray.size_append, ByteArray.size_append, z1, z2, z3]; omega, ⟨?_⟩, ⟨by repeat (first | exact HW.out | apply Drawn0.step)⟩⟩
                        rw [HT.out, desc_Escape.all_snoc, HX.out, HO.out]
                        rw [show (⟨#[37]⟩ : ByteArray) = ⟨[(37 : UInt8)].toArray⟩ from rfl, show (⟨#[b1]⟩ : ByteArray) = ⟨[b1].toArray⟩ from rfl, show (⟨#[b2]⟩ : ByteArray) = ⟨[b2].toArray⟩ from rfl, turncockref1_Escape.app, turncockref1_Escape.app, turncockref1_Escape.app, List.append_assoc, List.append_assoc]
                        rfl
                      case measure => simp [intOf]; omega
      · have e : s.data.toList.take k = s.data.toList := List.take_of_length_le (by simp; omega)
        rw [e] at HO
        clear e
        go_wp2
        go_ret
        exact ⟨by rw [← HO.out]; rfl, by repeat (first | exact HW.out | apply Drawn0.step)⟩
  · cases h

/-! ### turncockref1_DescText: function 18 -/
def turncockref1_DescText.l0 : Nat → ByteArray → Int → List (S47) → Option (ByteArray)
  | 0, _, _, _ => none
  | k + 1, x3, x4, x241000 => if x4 < (x241000.length : Int) then (if x4 > 0 then (if x3.size + 1 ≤ 9223372036854775807 then (if 0 ≤ x4 then ((turncockref1_Escape.f ((rd_T47 x241000 x4).f0)).bind fun t243 => (if x3.size + 1 + t243.size ≤ 9223372036854775807 then (if x3.size + 1 + t243.size + 1 ≤ 9223372036854775807 then ((turncockref1_Escape.f ((rd_T47 x241000 x4).f1)).bind fun t245 => (if x3.size + 1 + t243.size + 1 + t245.size ≤ 9223372036854775807 then (turncockref1_DescText.l0 k ((((x3 ++ (⟨#[44]⟩ : ByteArray)) ++ t243) ++ (⟨#[61]⟩ : ByteArray)) ++ t245) (wrap64 (x4 + 1)) x241000) else (none))) else (none)) else (none))) else (none)) else (none)) else (if 0 ≤ x4 then ((turncockref1_Escape.f ((rd_T47 x241000 x4).f0)).bind fun t247 => (if x3.size + t247.size ≤ 9223372036854775807 then (if x3.size + t247.size + 1 ≤ 9223372036854775807 then ((turncockref1_Escape.f ((rd_T47 x241000 x4).f1)).bind fun t249 => (if x3.size + t247.size + 1 + t249.size ≤ 9223372036854775807 then (turncockref1_DescText.l0 k (((x3 ++ t247) ++ (⟨#[61]⟩ : ByteArray)) ++ t249) (wrap64 (x4 + 1)) x241000) else (none))) else (none)) else (none))) else (none))) else (some x3)
def turncockref1_DescText.f (k : Nat) (l0_0 : List (S47)) : Option (ByteArray) := (turncockref1_CheckDesc.f k l0_0).bind fun t241 => (if t241 = true then (turncockref1_DescText.l0 k (⟨#[]⟩ : ByteArray) 0 l0_0) else (some (⟨#[]⟩ : ByteArray)))
theorem turncockref1_DescText.mono_l : ∀ k, (∀ y0 y1 y2, LeO (turncockref1_DescText.l0 k y0 y1 y2) (turncockref1_DescText.l0 (k + 1) y0 y1 y2))
  | 0 => fun _ _ _ r h => by simp [turncockref1_DescText.l0] at h
  | k + 1 => by
    have ih0 := turncockref1_DescText.mono_l k
    · intro y0 y1 y2
      unfold turncockref1_DescText.l0
      repeat' first
      | (with_reducible exact ih0 _ _ _)
      | (with_reducible exact turncockref1_CheckDesc.mono _ _)
      | (with_reducible exact LeO.refl _)
      | (with_reducible exact LeO.none _)
      | (with_reducible refine LeO.ite ?_ ?_)
      | (with_reducible refine LeO.bind ?_ (fun _ => ?_))
      | exact ih0 _ _ _
      | exact turncockref1_CheckDesc.mono _ _
      | exact LeO.none _
      | refine LeO.ite ?_ ?_
      | refine LeO.bind ?_ (fun _ => ?_)
theorem turncockref1_DescText.mono : ∀ a0 k, LeO (turncockref1_DescText.f k a0) (turncockref1_DescText.f (k + 1) a0) := by
  intro a0 k
  have ih0 := turncockref1_DescText.mono_l k
  unfold turncockref1_DescText.f
  repeat' first
      | (with_reducible exact ih0 _ _ _)
      | (with_reducible exact turncockref1_CheckDesc.mono _ _)
      | (with_reducible exact LeO.refl _)
      | (with_reducible exact LeO.none _)
      | (with_reducible refine LeO.ite ?_ ?_)
      | (with_reducible refine LeO.bind ?_ (fun _ => ?_))
      | exact ih0 _ _ _
      | exact turncockref1_CheckDesc.mono _ _
      | exact LeO.none _
      | refine LeO.ite ?_ ?_
      | refine LeO.bind ?_ (fun _ => ?_)
set_option maxHeartbeats 8000000 in
set_option maxRecDepth 100000 in
theorem turncockref1_DescText.calls (k : Nat) (A0_0 : Option Addr) (c0_0 : Nat) (l0_0 : List (S47)) (r : ByteArray) (w : World) (hr0_0 : Kd.C k47 w A0_0 l0_0.length l0_0) (hc0_0 : l0_0.length ≤ c0_0) (h : turncockref1_DescText.f k l0_0 = some r) :
    Calls Tryd.prog 18 #[.agg #[.slice A0_0 l0_0.length c0_0]] w fun e w' => e = .returned (.string r) ∧ Below w.heap.size w w' := by
  have hu24 := Tryd.underlying24
  have HR0_0 := Aside0.mk hr0_0
  have HC0_0 := Aside0.mk hc0_0
  clear hr0_0 hc0_0
  have HB := Aside0.mk (Below.refl w.heap.size w)
  have H : ((turncockref1_CheckDesc.f k l0_0).bind fun t241 => (if t241 = true then (turncockref1_DescText.l0 k (⟨#[]⟩ : ByteArray) 0 l0_0) else (some (⟨#[]⟩ : ByteArray)))) = some r := h
  clear h
  replace H := Option.bind_eq_some_iff.mp H
  obtain ⟨t241, A20, H⟩ := H
  replace H : (if t241 = true then (turncockref1_DescText.l0 k (⟨#[]⟩ : ByteArray) 0 l0_0) else (some (⟨#[]⟩ : ByteArray))) = some r := H
  have A2 := Aside0.mk A20
  clear A20
  by_cases c3 : t241 = true
  · subst c3
    have H1 : (turncockref1_DescText.l0 k (⟨#[]⟩ : ByteArray) 0 l0_0) = some r := by rw [if_pos rfl] at H; exact H
    clear H
    have H := H1
    clear H1
    have H' := Aside0.mk H
    clear H
    go_enter Tryd.func18, Tryd.ntmps18
    go_wp2_with (first | ((with_reducible refine gate_dst (N := 1) rfl ?_); refine box_event ?hg (N := 1) ?hd (cs := #[.slice A0_0 l0_0.length c0_0]) (t := 24) ?hr ?_; (case hd => rfl); (case hg => rfl); (case hr => first | (go_simp; done) | (go_simp; rfl)); intro gb240 hg w4 hbox hb; have n0_ := Aside0.mk (below_step (by repeat (first | (with_reducible first | exact HB.out | apply below_alloc | apply pw_below_drewN | apply below_drew1) | exact HB.out)) hb); have n1_ := Aside0.mk (hbox); have n2_ := Aside0.mk ((by rw [hg]; exact (below_size (by repeat (first | (with_reducible first | exact HB.out | apply below_alloc | apply pw_below_drewN | apply below_drew1) | exact HB.out))) : w.heap.size ≤ gb240)); have n3_ := Aside0.mk ((by rw [hg]; exact (below_size (by repeat (first | (with_reducible first | exact HB.out | apply below_alloc | apply pw_below_drewN | apply below_drew1) | exact HB.out))) : w.heap.size ≤ gb240)); clear HB; have HB := n0_; have BK240 := n1_; have GW240 := n2_; have GE240 := n3_; clear n0_ n1_ n2_ n3_; clear hb hbox hg; have hcz5_0 : w4.cell? ⟨gb240, 0, none⟩ = some (.slice A0_0 l0_0.length c0_0) := (blk_cell BK240.out 0).trans rfl; have hfz5_0 := blk_frozen BK240.out 0) | (go_at_call 17; (with_reducible refine (turncockref1_CheckDesc.calls k _ _ l0_0 true _ ?side1 ?side2 A2.out).mono ?_); (case side1 => repeat (first | exact (Kd.C_below HR0_0.out HB.out) | (with_reducible refine Kd.C_alloc ?_ _) | (with_reducible refine Kd.C_drewN ?_ _) | (with_reducible refine Kd.C_drew ?_))); (case side2 => exact HC0_0.out); rintro e w6 ⟨rfl, hb⟩; have n0_ := Aside0.mk (blk_below (g := gb240) (o := .cells #[.slice A0_0 l0_0.length c0_0] 24 (0, 0)) (by (with_reducible repeat (first | refine blk_drewN ?_ _ | refine blk_drew ?_ | refine blk_alloc ?_ _)); exact BK240.out) hb); have n1_ := Aside0.mk (below_step (by repeat (first | (with_reducible first | exact HB.out | apply below_alloc | apply pw_below_drewN | apply below_drew1 | refine below_set ?_ GE240.out) | exact HB.out)) hb); clear BK240; clear HB; have BK240 := n0_; have HB := n1_; clear n0_ n1_; (try clear hb); (try clear hb2); (try clear hk); (try clear hi)))
    repeat (go_quiet (first | ((with_reducible refine gate_dst (N := 1) rfl ?_); refine box_event ?hg (N := 1) ?hd (cs := #[.slice A0_0 l0_0.length c0_0]) (t := 24) ?hr ?_; (case hd => rfl); (case hg => rfl); (case hr => first | (go_simp; done) | (go_simp; rfl)); intro gb240 hg w4 hbox hb; have n0_ := Aside0.mk (below_step (by repeat (first | (with_reducible first | exact HB.out | apply below_alloc | apply pw_below_drewN | apply below_drew1) | exact HB.out)) hb); have n1_ := Aside0.mk (hbox); have n2_ := Aside0.mk ((by rw [hg]; exact (below_size (by repeat (first | (with_reducible first | exact HB.out | apply below_alloc | apply pw_below_drewN | apply below_drew1) | exact HB.out))) : w.heap.size ≤ gb240)); have n3_ := Aside0.mk ((by rw [hg]; exact (below_size (by repeat (first | (with_reducible first | exact HB.out | apply below_alloc | apply pw_below_drewN | apply below_drew1) | exact HB.out))) : w.heap.size ≤ gb240)); clear HB; have HB := n0_; have BK240 := n1_; have GW240 := n2_; have GE240 := n3_; clear n0_ n1_ n2_ n3_; clear hb hbox hg; have hcz5_0 : w4.cell? ⟨gb240, 0, none⟩ = some (.slice A0_0 l0_0.length c0_0) := (blk_cell BK240.out 0).trans rfl; have hfz5_0 := blk_frozen BK240.out 0) | (go_at_call 17; (with_reducible refine (turncockref1_CheckDesc.calls k _ _ l0_0 true _ ?side1 ?side2 A2.out).mono ?_); (case side1 => repeat (first | exact (Kd.C_below HR0_0.out HB.out) | (with_reducible refine Kd.C_alloc ?_ _) | (with_reducible refine Kd.C_drewN ?_ _) | (with_reducible refine Kd.C_drew ?_))); (case side2 => exact HC0_0.out); rintro e w6 ⟨rfl, hb⟩; have n0_ := Aside0.mk (blk_below (g := gb240) (o := .cells #[.slice A0_0 l0_0.length c0_0] 24 (0, 0)) (by (with_reducible repeat (first | refine blk_drewN ?_ _ | refine blk_drew ?_ | refine blk_alloc ?_ _)); exact BK240.out) hb); have n1_ := Aside0.mk (below_step (by repeat (first | (with_reducible first | exact HB.out | apply below_alloc | apply pw_below_drewN | apply below_drew1 | refine below_set ?_ GE240.out) | exact HB.out)) hb); clear BK240; clear HB; have BK240 := n0_; have HB := n1_; clear n0_ n1_; (try clear hb); (try clear hb2); (try clear hk); (try clear hi))); try go_wp2_with (first | ((with_reducible refine gate_dst (N := 1) rfl ?_); refine box_event ?hg (N := 1) ?hd (cs := #[.slice A0_0 l0_0.length c0_0]) (t := 24) ?hr ?_; (case hd => rfl); (case hg => rfl); (case hr => first | (go_simp; done) | (go_simp; rfl)); intro gb240 hg w4 hbox hb; have n0_ := Aside0.mk (below_step (by repeat (first | (with_reducible first | exact HB.out | apply below_alloc | apply pw_below_drewN | apply below_drew1) | exact HB.out)) hb); have n1_ := Aside0.mk (hbox); have n2_ := Aside0.mk ((by rw [hg]; exact (below_size (by repeat (first | (with_reducible first | exact HB.out | apply below_alloc | apply pw_below_drewN | apply below_drew1) | exact HB.out))) : w.heap.size ≤ gb240)); have n3_ := Aside0.mk ((by rw [hg]; exact (below_size (by repeat (first | (with_reducible first | exact HB.out | apply below_alloc | apply pw_below_drewN | apply below_drew1) | exact HB.out))) : w.heap.size ≤ gb240)); clear HB; have HB := n0_; have BK240 := n1_; have GW240 := n2_; have GE240 := n3_; clear n0_ n1_ n2_ n3_; clear hb hbox hg; have hcz5_0 : w4.cell? ⟨gb240, 0, none⟩ = some (.slice A0_0 l0_0.length c0_0) := (blk_cell BK240.out 0).trans rfl; have hfz5_0 := blk_frozen BK240.out 0) | (go_at_call 17; (with_reducible refine (turncockref1_CheckDesc.calls k _ _ l0_0 true _ ?side1 ?side2 A2.out).mono ?_); (case side1 => repeat (first | exact (Kd.C_below HR0_0.out HB.out) | (with_reducible refine Kd.C_alloc ?_ _) | (with_reducible refine Kd.C_drewN ?_ _) | (with_reducible refine Kd.C_drew ?_))); (case side2 => exact HC0_0.out); rintro e w6 ⟨rfl, hb⟩; have n0_ := Aside0.mk (blk_below (g := gb240) (o := .cells #[.slice A0_0 l0_0.length c0_0] 24 (0, 0)) (by (with_reducible repeat (first | refine blk_drewN ?_ _ | refine blk_drew ?_ | refine blk_alloc ?_ _)); exact BK240.out) hb); have n1_ := Aside0.mk (below_step (by repeat (first | (with_reducible first | exact HB.out | apply below_alloc | apply pw_below_drewN | apply below_drew1 | refine below_set ?_ GE240.out) | exact HB.out)) hb); clear BK240; clear HB; have BK240 := n0_; have HB := n1_; clear n0_ n1_; (try clear hb); (try clear hb2); (try clear hk); (try clear hi))))
    go_loopg [3, 4] k (fun kq v3 v4 w' => ∃ (x3_1 : ByteArray) (x4_1 : Int), v3 = .string x3_1 ∧ v4 = .int .i64 x4_1 ∧ Aside0 (turncockref1_DescText.l0 kq x3_1 x4_1 l0_0 = some r) ∧ Aside0 (kq ≤ k) ∧ Aside0 (w'.heap[gb240]? = some (.cells #[(.slice A0_0 l0_0.length c0_0)] 24 (0, 0))) ∧ Aside0 (Below w.heap.size w w'))
    case atStart => exact ⟨((⟨#[]⟩ : ByteArray)), (0), (by first | rfl | (simp; done) | (simp [*]; done)), (by first | rfl | (simp; done) | (simp [*]; done)), H', ⟨Nat.le_refl _⟩, ⟨by (with_reducible repeat (first | refine blk_drewN ?_ _ | refine blk_drew ?_ | refine blk_alloc ?_ _)); exact BK240.out⟩, ⟨by repeat (first | (with_reducible first | exact HB.out | apply below_alloc | apply pw_below_drewN | apply below_drew1 | refine below_set ?_ GE240.out) | exact HB.out)⟩⟩
    case round =>
      clear H'
      try clear c1
      try clear p2
      try clear c3
      try clear hcz5_0
      try clear hfz5_0
      obtain ⟨x3_1, x4_1, rfl, rfl, HA, HK1, BK240, HB⟩ := hrel
      cases gk with
      | zero => exact absurd HA.out (by simp [turncockref1_DescText.l0])
      | succ k1 =>
        have H := HA.out
        clear HA
        simp only [turncockref1_DescText.l0] at H
        by_cases c7 : x4_1 < (l0_0.length : Int)
        · rw [if_pos c7] at H
          have c7b0 : decide (x4_1 < (l0_0.length : Int)) = true := decide_eq_true c7
          clear c7
          by_cases c8 : x4_1 > 0
          · rw [if_pos c8] at H
            have c8b0 : decide (0 < x4_1) = true := decide_eq_true c8
            clear c8
            by_cases c9 : x3_1.size + 1 ≤ 9223372036854775807
            · rw [if_pos c9] at H
              have c9b0 := eq_true c9
              have c9b1 : decide (x3_1.size + 1 ≤ 9223372036854775807) = true := decide_eq_true c9
              try have c9b2 : (9223372036854775807 < x3_1.size + 1) = False := eq_false (Nat.not_lt.2 c9)
              by_cases c10 : 0 ≤ x4_1
              · rw [if_pos c10] at H
                have c10b0 : decide (0 ≤ x4_1) = true := decide_eq_true c10
                clear c10
                replace H := Option.bind_eq_some_iff.mp H
                obtain ⟨t243, A110, H⟩ := H
                replace H : (if x3_1.size + 1 + t243.size ≤ 9223372036854775807 then (if x3_1.size + 1 + t243.size + 1 ≤ 9223372036854775807 then ((turncockref1_Escape.f ((rd_T47 l0_0 x4_1).f1)).bind fun t245 => (if x3_1.size + 1 + t243.size + 1 + t245.size ≤ 9223372036854775807 then (turncockref1_DescText.l0 k1 ((((x3_1 ++ (⟨#[44]⟩ : ByteArray)) ++ t243) ++ (⟨#[61]⟩ : ByteArray)) ++ t245) (wrap64 (x4_1 + 1)) l0_0) else (none))) else (none)) else (none)) = some r := H
                have A11 := Aside0.mk A110
                clear A110
                by_cases c12 : x3_1.size + 1 + t243.size ≤ 9223372036854775807
                · rw [if_pos c12] at H
                  have c12b0 := eq_true c12
                  have c12b1 : decide (x3_1.size + 1 + t243.size ≤ 9223372036854775807) = true := decide_eq_true c12
                  try have c12b2 : (9223372036854775807 < x3_1.size + 1 + t243.size) = False := eq_false (Nat.not_lt.2 c12)
                  by_cases c13 : x3_1.size + 1 + t243.size + 1 ≤ 9223372036854775807
                  · rw [if_pos c13] at H
                    have c13b0 := eq_true c13
                    have c13b1 : decide (x3_1.size + 1 + t243.size + 1 ≤ 9223372036854775807) = true := decide_eq_true c13
                    try have c13b2 : (9223372036854775807 < x3_1.size + 1 + t243.size + 1) = False := eq_false (Nat.not_lt.2 c13)
                    replace H := Option.bind_eq_some_iff.mp H
                    obtain ⟨t245, A140, H⟩ := H
                    replace H : (if x3_1.size + 1 + t243.size + 1 + t245.size ≤ 9223372036854775807 then (turncockref1_DescText.l0 k1 ((((x3_1 ++ (⟨#[44]⟩ : ByteArray)) ++ t243) ++ (⟨#[61]⟩ : ByteArray)) ++ t245) (wrap64 (x4_1 + 1)) l0_0) else (none)) = some r := H
                    have A14 := Aside0.mk A140
                    clear A140
                    by_cases c15 : x3_1.size + 1 + t243.size + 1 + t245.size ≤ 9223372036854775807
                    · rw [if_pos c15] at H
                      have c15b0 := eq_true c15
                      have c15b1 : decide (x3_1.size + 1 + t243.size + 1 + t245.size ≤ 9223372036854775807) = true := decide_eq_true c15
                      try have c15b2 : (9223372036854775807 < x3_1.size + 1 + t243.size + 1 + t245.size) = False := eq_false (Nat.not_lt.2 c15)
                      have H' := Aside0.mk H
                      clear H
                      have hcz16_0 : wr.cell? ⟨gb240, 0, none⟩ = some (.slice A0_0 l0_0.length c0_0) := (blk_cell BK240.out 0).trans rfl
                      have hfz16_0 := blk_frozen BK240.out 0
                      have p242 : 0 ≤ (x4_1 : Int) := of_decide_eq_true (by first | (with_reducible assumption) | assumption)
                      have q242 : x4_1 < (l0_0.length : Int) := of_decide_eq_true (by first | (with_reducible assumption) | assumption)
                      obtain ⟨ad242, e242, hx242_0, hx242_1⟩ := at_T47 HR0_0.out x4_1 p242 q242
                      cases e242
                      replace hx242_0 := (HB.out.cell (World.block_lt_of_cell? w _ hx242_0)).trans hx242_0
                      replace hx242_1 := (HB.out.cell (World.block_lt_of_cell? w _ hx242_1)).trans hx242_1
                      replace p242 := eq_true p242
                      replace q242 := eq_true q242
                      go_wp2_with (first | (go_at_call 24; (with_reducible refine (turncockref1_Escape.calls ((rd_T47 l0_0 x4_1).f0) t243 _ A11.out).mono ?_); rintro e w' ⟨rfl, ⟨nd, rfl⟩⟩; (try first | exact ⟨rfl, _, World.drewN_drewN _ _ _⟩ | exact ⟨rfl, _, Eq.trans (World.drewN_drewN _ _ _) (congrArg (World.drewN _) (Nat.add_assoc _ _ _))⟩); have p244 : 0 ≤ (x4_1 : Int) := of_decide_eq_true (by first | (with_reducible assumption) | assumption); have q244 : x4_1 < (l0_0.length : Int) := of_decide_eq_true (by first | (with_reducible assumption) | assumption); obtain ⟨ad244, e244, hx244_0, hx244_1⟩ := at_T47 HR0_0.out x4_1 p244 q244; obtain rfl : ad242 = ad244 := (by injection e244); replace hx244_0 := (HB.out.cell (World.block_lt_of_cell? w _ hx244_0)).trans hx244_0; replace hx244_1 := (HB.out.cell (World.block_lt_of_cell? w _ hx244_1)).trans hx244_1; replace p244 := eq_true p244; replace q244 := eq_true q244) | (go_at_call 24; (with_reducible refine (turncockref1_Escape.calls ((rd_T47 l0_0 x4_1).f1) t245 _ A14.out).mono ?_); rintro e w' ⟨rfl, ⟨nd, rfl⟩⟩; (try first | exact ⟨rfl, _, World.drewN_drewN _ _ _⟩ | exact ⟨rfl, _, Eq.trans (World.drewN_drewN _ _ _) (congrArg (World.drewN _) (Nat.add_assoc _ _ _))⟩)))
                      repeat (go_quiet (first | (go_at_call 24; (with_reducible refine (turncockref1_Escape.calls ((rd_T47 l0_0 x4_1).f0) t243 _ A11.out).mono ?_); rintro e w' ⟨rfl, ⟨nd, rfl⟩⟩; (try first | exact ⟨rfl, _, World.drewN_drewN _ _ _⟩ | exact ⟨rfl, _, Eq.trans (World.drewN_drewN _ _ _) (congrArg (World.drewN _) (Nat.add_assoc _ _ _))⟩); have p244 : 0 ≤ (x4_1 : Int) := of_decide_eq_true (by first | (with_reducible assumption) | assumption); have q244 : x4_1 < (l0_0.length : Int) := of_decide_eq_true (by first | (with_reducible assumption) | assumption); obtain ⟨ad244, e244, hx244_0, hx244_1⟩ := at_T47 HR0_0.out x4_1 p244 q244; obtain rfl : ad242 = ad244 := (by injection e244); replace hx244_0 := (HB.out.cell (World.block_lt_of_cell? w _ hx244_0)).trans hx244_0; replace hx244_1 := (HB.out.cell (World.block_lt_of_cell? w _ hx244_1)).trans hx244_1; replace p244 := eq_true p244; replace q244 := eq_true q244) | (go_at_call 24; (with_reducible refine (turncockref1_Escape.calls ((rd_T47 l0_0 x4_1).f1) t245 _ A14.out).mono ?_); rintro e w' ⟨rfl, ⟨nd, rfl⟩⟩; (try first | exact ⟨rfl, _, World.drewN_drewN _ _ _⟩ | exact ⟨rfl, _, Eq.trans (World.drewN_drewN _ _ _) (congrArg (World.drewN _) (Nat.add_assoc _ _ _))⟩))); try go_wp2_with (first | (go_at_call 24; (with_reducible refine (turncockref1_Escape.calls ((rd_T47 l0_0 x4_1).f0) t243 _ A11.out).mono ?_); rintro e w' ⟨rfl, ⟨nd, rfl⟩⟩; (try first | exact ⟨rfl, _, World.drewN_drewN _ _ _⟩ | exact ⟨rfl, _, Eq.trans (World.drewN_drewN _ _ _) (congrArg (World.drewN _) (Nat.add_assoc _ _ _))⟩); have p244 : 0 ≤ (x4_1 : Int) := of_decide_eq_true (by first | (with_reducible assumption) | assumption); have q244 : x4_1 < (l0_0.length : Int) := of_decide_eq_true (by first | (with_reducible assumption) | assumption); obtain ⟨ad244, e244, hx244_0, hx244_1⟩ := at_T47 HR0_0.out x4_1 p244 q244; obtain rfl : ad242 = ad244 := (by injection e244); replace hx244_0 := (HB.out.cell (World.block_lt_of_cell? w _ hx244_0)).trans hx244_0; replace hx244_1 := (HB.out.cell (World.block_lt_of_cell? w _ hx244_1)).trans hx244_1; replace p244 := eq_true p244; replace q244 := eq_true q244) | (go_at_call 24; (with_reducible refine (turncockref1_Escape.calls ((rd_T47 l0_0 x4_1).f1) t245 _ A14.out).mono ?_); rintro e w' ⟨rfl, ⟨nd, rfl⟩⟩; (try first | exact ⟨rfl, _, World.drewN_drewN _ _ _⟩ | exact ⟨rfl, _, Eq.trans (World.drewN_drewN _ _ _) (congrArg (World.drewN _) (Nat.add_assoc _ _ _))⟩))))
                      go_roundg k1
                      case measure => have := HK1.out; omega
                      case rel => exact ⟨((((x3_1 ++ (⟨#[44]⟩ : ByteArray)) ++ t243) ++ (⟨#[61]⟩ : ByteArray)) ++ t245), (wrap64 (x4_1 + 1)), (by first | rfl | (simp; done) | (simp [*]; done)), (by first | rfl | (simp; done) | (simp [*]; done)), H', ⟨by have := HK1.out; omega⟩, ⟨by (with_reducible repeat (first | refine blk_drewN ?_ _ | refine blk_drew ?_ | refine blk_alloc ?_ _)); exact BK240.out⟩, ⟨by repeat (first | (with_reducible first | exact HB.out | apply below_alloc | apply pw_below_drewN | apply below_drew1 | refine below_set ?_ GE240.out) | exact HB.out)⟩⟩
                    · rw [if_neg c15] at H
                      exact absurd H (by simp)
                  · rw [if_neg c13] at H
                    exact absurd H (by simp)
                · rw [if_neg c12] at H
                  exact absurd H (by simp)
              · rw [if_neg c10] at H
                exact absurd H (by simp)
            · rw [if_neg c9] at H
              exact absurd H (by simp)
          · rw [if_neg c8] at H
            have c8b0 : decide (0 < x4_1) = false := decide_eq_false c8
            clear c8
            by_cases c17 : 0 ≤ x4_1
            · rw [if_pos c17] at H
              have c17b0 : decide (0 ≤ x4_1) = true := decide_eq_true c17
              clear c17
              replace H := Option.bind_eq_some_iff.mp H
              obtain ⟨t247, A180, H⟩ := H
              replace H : (if x3_1.size + t247.size ≤ 9223372036854775807 then (if x3_1.size + t247.size + 1 ≤ 9223372036854775807 then ((turncockref1_Escape.f ((rd_T47 l0_0 x4_1).f1)).bind fun t249 => (if x3_1.size + t247.size + 1 + t249.size ≤ 9223372036854775807 then (turncockref1_DescText.l0 k1 (((x3_1 ++ t247) ++ (⟨#[61]⟩ : ByteArray)) ++ t249) (wrap64 (x4_1 + 1)) l0_0) else (none))) else (none)) else (none)) = some r := H
              have A18 := Aside0.mk A180
              clear A180
              by_cases c19 : x3_1.size + t247.size ≤ 9223372036854775807
              · rw [if_pos c19] at H
                have c19b0 := eq_true c19
                have c19b1 : decide (x3_1.size + t247.size ≤ 9223372036854775807) = true := decide_eq_true c19
                try have c19b2 : (9223372036854775807 < x3_1.size + t247.size) = False := eq_false (Nat.not_lt.2 c19)
                by_cases c20 : x3_1.size + t247.size + 1 ≤ 9223372036854775807
                · rw [if_pos c20] at H
                  have c20b0 := eq_true c20
                  have c20b1 : decide (x3_1.size + t247.size + 1 ≤ 9223372036854775807) = true := decide_eq_true c20
                  try have c20b2 : (9223372036854775807 < x3_1.size + t247.size + 1) = False := eq_false (Nat.not_lt.2 c20)
                  replace H := Option.bind_eq_some_iff.mp H
                  obtain ⟨t249, A210, H⟩ := H
                  replace H : (if x3_1.size + t247.size + 1 + t249.size ≤ 9223372036854775807 then (turncockref1_DescText.l0 k1 (((x3_1 ++ t247) ++ (⟨#[61]⟩ : ByteArray)) ++ t249) (wrap64 (x4_1 + 1)) l0_0) else (none)) = some r := H
                  have A21 := Aside0.mk A210
                  clear A210
                  by_cases c22 : x3_1.size + t247.size + 1 + t249.size ≤ 9223372036854775807
                  · rw [if_pos c22] at H
                    have c22b0 := eq_true c22
                    have c22b1 : decide (x3_1.size + t247.size + 1 + t249.size ≤ 9223372036854775807) = true := decide_eq_true c22
                    try have c22b2 : (9223372036854775807 < x3_1.size + t247.size + 1 + t249.size) = False := eq_false (Nat.not_lt.2 c22)
                    have H' := Aside0.mk H
                    clear H
                    have hcz23_0 : wr.cell? ⟨gb240, 0, none⟩ = some (.slice A0_0 l0_0.length c0_0) := (blk_cell BK240.out 0).trans rfl
                    have hfz23_0 := blk_frozen BK240.out 0
                    have p246 : 0 ≤ (x4_1 : Int) := of_decide_eq_true (by first | (with_reducible assumption) | assumption)
                    have q246 : x4_1 < (l0_0.length : Int) := of_decide_eq_true (by first | (with_reducible assumption) | assumption)
                    obtain ⟨ad246, e246, hx246_0, hx246_1⟩ := at_T47 HR0_0.out x4_1 p246 q246
                    cases e246
                    replace hx246_0 := (HB.out.cell (World.block_lt_of_cell? w _ hx246_0)).trans hx246_0
                    replace hx246_1 := (HB.out.cell (World.block_lt_of_cell? w _ hx246_1)).trans hx246_1
                    replace p246 := eq_true p246
                    replace q246 := eq_true q246
                    go_wp2_with (first | (go_at_call 24; (with_reducible refine (turncockref1_Escape.calls ((rd_T47 l0_0 x4_1).f0) t247 _ A18.out).mono ?_); rintro e w' ⟨rfl, ⟨nd, rfl⟩⟩; (try first | exact ⟨rfl, _, World.drewN_drewN _ _ _⟩ | exact ⟨rfl, _, Eq.trans (World.drewN_drewN _ _ _) (congrArg (World.drewN _) (Nat.add_assoc _ _ _))⟩); have p248 : 0 ≤ (x4_1 : Int) := of_decide_eq_true (by first | (with_reducible assumption) | assumption); have q248 : x4_1 < (l0_0.length : Int) := of_decide_eq_true (by first | (with_reducible assumption) | assumption); obtain ⟨ad248, e248, hx248_0, hx248_1⟩ := at_T47 HR0_0.out x4_1 p248 q248; obtain rfl : ad246 = ad248 := (by injection e248); replace hx248_0 := (HB.out.cell (World.block_lt_of_cell? w _ hx248_0)).trans hx248_0; replace hx248_1 := (HB.out.cell (World.block_lt_of_cell? w _ hx248_1)).trans hx248_1; replace p248 := eq_true p248; replace q248 := eq_true q248) | (go_at_call 24; (with_reducible refine (turncockref1_Escape.calls ((rd_T47 l0_0 x4_1).f1) t249 _ A21.out).mono ?_); rintro e w' ⟨rfl, ⟨nd, rfl⟩⟩; (try first | exact ⟨rfl, _, World.drewN_drewN _ _ _⟩ | exact ⟨rfl, _, Eq.trans (World.drewN_drewN _ _ _) (congrArg (World.drewN _) (Nat.add_assoc _ _ _))⟩)))
                    repeat (go_quiet (first | (go_at_call 24; (with_reducible refine (turncockref1_Escape.calls ((rd_T47 l0_0 x4_1).f0) t247 _ A18.out).mono ?_); rintro e w' ⟨rfl, ⟨nd, rfl⟩⟩; (try first | exact ⟨rfl, _, World.drewN_drewN _ _ _⟩ | exact ⟨rfl, _, Eq.trans (World.drewN_drewN _ _ _) (congrArg (World.drewN _) (Nat.add_assoc _ _ _))⟩); have p248 : 0 ≤ (x4_1 : Int) := of_decide_eq_true (by first | (with_reducible assumption) | assumption); have q248 : x4_1 < (l0_0.length : Int) := of_decide_eq_true (by first | (with_reducible assumption) | assumption); obtain ⟨ad248, e248, hx248_0, hx248_1⟩ := at_T47 HR0_0.out x4_1 p248 q248; obtain rfl : ad246 = ad248 := (by injection e248); replace hx248_0 := (HB.out.cell (World.block_lt_of_cell? w _ hx248_0)).trans hx248_0; replace hx248_1 := (HB.out.cell (World.block_lt_of_cell? w _ hx248_1)).trans hx248_1; replace p248 := eq_true p248; replace q248 := eq_true q248) | (go_at_call 24; (with_reducible refine (turncockref1_Escape.calls ((rd_T47 l0_0 x4_1).f1) t249 _ A21.out).mono ?_); rintro e w' ⟨rfl, ⟨nd, rfl⟩⟩; (try first | exact ⟨rfl, _, World.drewN_drewN _ _ _⟩ | exact ⟨rfl, _, Eq.trans (World.drewN_drewN _ _ _) (congrArg (World.drewN _) (Nat.add_assoc _ _ _))⟩))); try go_wp2_with (first | (go_at_call 24; (with_reducible refine (turncockref1_Escape.calls ((rd_T47 l0_0 x4_1).f0) t247 _ A18.out).mono ?_); rintro e w' ⟨rfl, ⟨nd, rfl⟩⟩; (try first | exact ⟨rfl, _, World.drewN_drewN _ _ _⟩ | exact ⟨rfl, _, Eq.trans (World.drewN_drewN _ _ _) (congrArg (World.drewN _) (Nat.add_assoc _ _ _))⟩); have p248 : 0 ≤ (x4_1 : Int) := of_decide_eq_true (by first | (with_reducible assumption) | assumption); have q248 : x4_1 < (l0_0.length : Int) := of_decide_eq_true (by first | (with_reducible assumption) | assumption); obtain ⟨ad248, e248, hx248_0, hx248_1⟩ := at_T47 HR0_0.out x4_1 p248 q248; obtain rfl : ad246 = ad248 := (by injection e248); replace hx248_0 := (HB.out.cell (World.block_lt_of_cell? w _ hx248_0)).trans hx248_0; replace hx248_1 := (HB.out.cell (World.block_lt_of_cell? w _ hx248_1)).trans hx248_1; replace p248 := eq_true p248; replace q248 := eq_true q248) | (go_at_call 24; (with_reducible refine (turncockref1_Escape.calls ((rd_T47 l0_0 x4_1).f1) t249 _ A21.out).mono ?_); rintro e w' ⟨rfl, ⟨nd, rfl⟩⟩; (try first | exact ⟨rfl, _, World.drewN_drewN _ _ _⟩ | exact ⟨rfl, _, Eq.trans (World.drewN_drewN _ _ _) (congrArg (World.drewN _) (Nat.add_assoc _ _ _))⟩))))
                    go_roundg k1
                    case measure => have := HK1.out; omega
                    case rel => exact ⟨(((x3_1 ++ t247) ++ (⟨#[61]⟩ : ByteArray)) ++ t249), (wrap64 (x4_1 + 1)), (by first | rfl | (simp; done) | (simp [*]; done)), (by first | rfl | (simp; done) | (simp [*]; done)), H', ⟨by have := HK1.out; omega⟩, ⟨by (with_reducible repeat (first | refine blk_drewN ?_ _ | refine blk_drew ?_ | refine blk_alloc ?_ _)); exact BK240.out⟩, ⟨by repeat (first | (with_reducible first | exact HB.out | apply below_alloc | apply pw_below_drewN | apply below_drew1 | refine below_set ?_ GE240.out) | exact HB.out)⟩⟩
                  · rw [if_neg c22] at H
                    exact absurd H (by simp)
                · rw [if_neg c20] at H
                  exact absurd H (by simp)
              · rw [if_neg c19] at H
                exact absurd H (by simp)
            · rw [if_neg c17] at H
              exact absurd H (by simp)
        · rw [if_neg c7] at H
          have c7b0 : decide (x4_1 < (l0_0.length : Int)) = false := decide_eq_false c7
          clear c7
          obtain rfl := Option.some.inj H
          have hcz24_0 : wr.cell? ⟨gb240, 0, none⟩ = some (.slice A0_0 l0_0.length c0_0) := (blk_cell BK240.out 0).trans rfl
          have hfz24_0 := blk_frozen BK240.out 0
          go_wp2
          repeat (go_quiet (fail); try go_wp2)
          go_ret
          exact ⟨by first | rfl | (simp [errW_none, errW_some] <;> rfl) | (simp [*, errW_none, errW_some] <;> rfl), by repeat (first | (with_reducible first | exact HB.out | apply below_alloc | apply pw_below_drewN | apply below_drew1 | refine below_set ?_ GE240.out) | exact HB.out)⟩
  · replace c3 := Bool.eq_false_iff.mpr c3
    subst c3
    have H1 : (some (⟨#[]⟩ : ByteArray)) = some r := by rw [if_neg (show ¬ (false = true) by decide)] at H; exact H
    clear H
    have H := H1
    clear H1
    obtain rfl := Option.some.inj H
    go_enter Tryd.func18, Tryd.ntmps18
    go_wp2_with (first | ((with_reducible refine gate_dst (N := 1) rfl ?_); refine box_event ?hg (N := 1) ?hd (cs := #[.slice A0_0 l0_0.length c0_0]) (t := 24) ?hr ?_; (case hd => rfl); (case hg => rfl); (case hr => first | (go_simp; done) | (go_simp; rfl)); intro gb240 hg w25 hbox hb; have n0_ := Aside0.mk (below_step (by repeat (first | (with_reducible first | exact HB.out | apply below_alloc | apply pw_below_drewN | apply below_drew1) | exact HB.out)) hb); have n1_ := Aside0.mk (hbox); have n2_ := Aside0.mk ((by rw [hg]; exact (below_size (by repeat (first | (with_reducible first | exact HB.out | apply below_alloc | apply pw_below_drewN | apply below_drew1) | exact HB.out))) : w.heap.size ≤ gb240)); have n3_ := Aside0.mk ((by rw [hg]; exact (below_size (by repeat (first | (with_reducible first | exact HB.out | apply below_alloc | apply pw_below_drewN | apply below_drew1) | exact HB.out))) : w.heap.size ≤ gb240)); clear HB; have HB := n0_; have BK240 := n1_; have GW240 := n2_; have GE240 := n3_; clear n0_ n1_ n2_ n3_; clear hb hbox hg; have hcz26_0 : w25.cell? ⟨gb240, 0, none⟩ = some (.slice A0_0 l0_0.length c0_0) := (blk_cell BK240.out 0).trans rfl; have hfz26_0 := blk_frozen BK240.out 0) | (go_at_call 17; (with_reducible refine (turncockref1_CheckDesc.calls k _ _ l0_0 false _ ?side1 ?side2 A2.out).mono ?_); (case side1 => repeat (first | exact (Kd.C_below HR0_0.out HB.out) | (with_reducible refine Kd.C_alloc ?_ _) | (with_reducible refine Kd.C_drewN ?_ _) | (with_reducible refine Kd.C_drew ?_))); (case side2 => exact HC0_0.out); rintro e w27 ⟨rfl, hb⟩; have n0_ := Aside0.mk (blk_below (g := gb240) (o := .cells #[.slice A0_0 l0_0.length c0_0] 24 (0, 0)) (by (with_reducible repeat (first | refine blk_drewN ?_ _ | refine blk_drew ?_ | refine blk_alloc ?_ _)); exact BK240.out) hb); have n1_ := Aside0.mk (below_step (by repeat (first | (with_reducible first | exact HB.out | apply below_alloc | apply pw_below_drewN | apply below_drew1 | refine below_set ?_ GE240.out) | exact HB.out)) hb); clear BK240; clear HB; have BK240 := n0_; have HB := n1_; clear n0_ n1_; (try clear hb); (try clear hb2); (try clear hk); (try clear hi)))
    repeat (go_quiet (first | ((with_reducible refine gate_dst (N := 1) rfl ?_); refine box_event ?hg (N := 1) ?hd (cs := #[.slice A0_0 l0_0.length c0_0]) (t := 24) ?hr ?_; (case hd => rfl); (case hg => rfl); (case hr => first | (go_simp; done) | (go_simp; rfl)); intro gb240 hg w25 hbox hb; have n0_ := Aside0.mk (below_step (by repeat (first | (with_reducible first | exact HB.out | apply below_alloc | apply pw_below_drewN | apply below_drew1) | exact HB.out)) hb); have n1_ := Aside0.mk (hbox); have n2_ := Aside0.mk ((by rw [hg]; exact (below_size (by repeat (first | (with_reducible first | exact HB.out | apply below_alloc | apply pw_below_drewN | apply below_drew1) | exact HB.out))) : w.heap.size ≤ gb240)); have n3_ := Aside0.mk ((by rw [hg]; exact (below_size (by repeat (first | (with_reducible first | exact HB.out | apply below_alloc | apply pw_below_drewN | apply below_drew1) | exact HB.out))) : w.heap.size ≤ gb240)); clear HB; have HB := n0_; have BK240 := n1_; have GW240 := n2_; have GE240 := n3_; clear n0_ n1_ n2_ n3_; clear hb hbox hg; have hcz26_0 : w25.cell? ⟨gb240, 0, none⟩ = some (.slice A0_0 l0_0.length c0_0) := (blk_cell BK240.out 0).trans rfl; have hfz26_0 := blk_frozen BK240.out 0) | (go_at_call 17; (with_reducible refine (turncockref1_CheckDesc.calls k _ _ l0_0 false _ ?side1 ?side2 A2.out).mono ?_); (case side1 => repeat (first | exact (Kd.C_below HR0_0.out HB.out) | (with_reducible refine Kd.C_alloc ?_ _) | (with_reducible refine Kd.C_drewN ?_ _) | (with_reducible refine Kd.C_drew ?_))); (case side2 => exact HC0_0.out); rintro e w27 ⟨rfl, hb⟩; have n0_ := Aside0.mk (blk_below (g := gb240) (o := .cells #[.slice A0_0 l0_0.length c0_0] 24 (0, 0)) (by (with_reducible repeat (first | refine blk_drewN ?_ _ | refine blk_drew ?_ | refine blk_alloc ?_ _)); exact BK240.out) hb); have n1_ := Aside0.mk (below_step (by repeat (first | (with_reducible first | exact HB.out | apply below_alloc | apply pw_below_drewN | apply below_drew1 | refine below_set ?_ GE240.out) | exact HB.out)) hb); clear BK240; clear HB; have BK240 := n0_; have HB := n1_; clear n0_ n1_; (try clear hb); (try clear hb2); (try clear hk); (try clear hi))); try go_wp2_with (first | ((with_reducible refine gate_dst (N := 1) rfl ?_); refine box_event ?hg (N := 1) ?hd (cs := #[.slice A0_0 l0_0.length c0_0]) (t := 24) ?hr ?_; (case hd => rfl); (case hg => rfl); (case hr => first | (go_simp; done) | (go_simp; rfl)); intro gb240 hg w25 hbox hb; have n0_ := Aside0.mk (below_step (by repeat (first | (with_reducible first | exact HB.out | apply below_alloc | apply pw_below_drewN | apply below_drew1) | exact HB.out)) hb); have n1_ := Aside0.mk (hbox); have n2_ := Aside0.mk ((by rw [hg]; exact (below_size (by repeat (first | (with_reducible first | exact HB.out | apply below_alloc | apply pw_below_drewN | apply below_drew1) | exact HB.out))) : w.heap.size ≤ gb240)); have n3_ := Aside0.mk ((by rw [hg]; exact (below_size (by repeat (first | (with_reducible first | exact HB.out | apply below_alloc | apply pw_below_drewN | apply below_drew1) | exact HB.out))) : w.heap.size ≤ gb240)); clear HB; have HB := n0_; have BK240 := n1_; have GW240 := n2_; have GE240 := n3_; clear n0_ n1_ n2_ n3_; clear hb hbox hg; have hcz26_0 : w25.cell? ⟨gb240, 0, none⟩ = some (.slice A0_0 l0_0.length c0_0) := (blk_cell BK240.out 0).trans rfl; have hfz26_0 := blk_frozen BK240.out 0) | (go_at_call 17; (with_reducible refine (turncockref1_CheckDesc.calls k _ _ l0_0 false _ ?side1 ?side2 A2.out).mono ?_); (case side1 => repeat (first | exact (Kd.C_below HR0_0.out HB.out) | (with_reducible refine Kd.C_alloc ?_ _) | (with_reducible refine Kd.C_drewN ?_ _) | (with_reducible refine Kd.C_drew ?_))); (case side2 => exact HC0_0.out); rintro e w27 ⟨rfl, hb⟩; have n0_ := Aside0.mk (blk_below (g := gb240) (o := .cells #[.slice A0_0 l0_0.length c0_0] 24 (0, 0)) (by (with_reducible repeat (first | refine blk_drewN ?_ _ | refine blk_drew ?_ | refine blk_alloc ?_ _)); exact BK240.out) hb); have n1_ := Aside0.mk (below_step (by repeat (first | (with_reducible first | exact HB.out | apply below_alloc | apply pw_below_drewN | apply below_drew1 | refine below_set ?_ GE240.out) | exact HB.out)) hb); clear BK240; clear HB; have BK240 := n0_; have HB := n1_; clear n0_ n1_; (try clear hb); (try clear hb2); (try clear hk); (try clear hi))))
    go_ret
    exact ⟨by first | rfl | (simp [errW_none, errW_some] <;> rfl) | (simp [*, errW_none, errW_some] <;> rfl), by repeat (first | (with_reducible first | exact HB.out | apply below_alloc | apply pw_below_drewN | apply below_drew1 | refine below_set ?_ GE240.out) | exact HB.out)⟩

/-! ### turncockref1_Hold: function 34 -/
def turncockref1_Hold.f (a0 : Int) : Option (Int) := if a0 < 0 then (some 0) else (if a0 > 4611686018427387904 then (some 4611686018427387904) else (some a0))
set_option maxHeartbeats 8000000 in
set_option maxRecDepth 100000 in
theorem turncockref1_Hold.calls (a0 : Int) (r : Int) (w : World) (h : turncockref1_Hold.f a0 = some r) :
    Calls Tryd.prog 34 #[.int .i64 a0] w fun e w' => e = .returned (.int .i64 r) ∧ Drawn0 w w' := by
  have H : (if a0 < 0 then (some 0) else (if a0 > 4611686018427387904 then (some 4611686018427387904) else (some a0))) = some r := h
  clear h
  by_cases c2 : a0 < 0
  · rw [if_pos c2] at H
    have c2b0 : decide (a0 < 0) = true := decide_eq_true c2
    clear c2
    obtain rfl := Option.some.inj H
    go_enter Tryd.func34, Tryd.ntmps34
    go_wp2
    go_ret
    exact ⟨by first | rfl | (simp; done) | (simp [*]; done), by repeat (first | exact Drawn0.refl _ | apply Drawn0.step)⟩
  · rw [if_neg c2] at H
    have c2b0 : decide (a0 < 0) = false := decide_eq_false c2
    clear c2
    by_cases c3 : a0 > 4611686018427387904
    · rw [if_pos c3] at H
      have c3b0 : decide (4611686018427387904 < a0) = true := decide_eq_true c3
      clear c3
      obtain rfl := Option.some.inj H
      go_enter Tryd.func34, Tryd.ntmps34
      go_wp2
      go_ret
      exact ⟨by first | rfl | (simp; done) | (simp [*]; done), by repeat (first | exact Drawn0.refl _ | apply Drawn0.step)⟩
    · rw [if_neg c3] at H
      have c3b0 : decide (4611686018427387904 < a0) = false := decide_eq_false c3
      clear c3
      obtain rfl := Option.some.inj H
      go_enter Tryd.func34, Tryd.ntmps34
      go_wp2
      go_ret
      exact ⟨by first | rfl | (simp; done) | (simp [*]; done), by repeat (first | exact Drawn0.refl _ | apply Drawn0.step)⟩

/-! ### turncockref15_Secs: function 35 -/
def turncockref15_Secs.f (a0 : Int) : Option (Int) := if a0 = 1 then (some 1) else (if a0 = 2 then (some 60) else (if a0 = 3 then (some 3600) else (if a0 = 4 then (some 86400) else (some 0))))
set_option maxHeartbeats 8000000 in
set_option maxRecDepth 100000 in
theorem turncockref15_Secs.calls (a0 : Int) (r : Int) (w : World) (h : turncockref15_Secs.f a0 = some r) :
    Calls Tryd.prog 35 #[.int .i64 a0] w fun e w' => e = .returned (.int .i64 r) ∧ Drawn0 w w' := by
  have H : (if a0 = 1 then (some 1) else (if a0 = 2 then (some 60) else (if a0 = 3 then (some 3600) else (if a0 = 4 then (some 86400) else (some 0))))) = some r := h
  clear h
  by_cases c2 : a0 = 1
  · rw [if_pos c2] at H
    have c2b0 : (a0 == 1) = true := beq_iff_eq.mpr c2
    have c2b1 : (a0 != 1) = false := bne_eq_false_iff_eq.mpr c2
    clear c2
    obtain rfl := Option.some.inj H
    go_enter Tryd.func35, Tryd.ntmps35
    go_wp2
    go_ret
    exact ⟨by first | rfl | (simp; done) | (simp [*]; done), by repeat (first | exact Drawn0.refl _ | apply Drawn0.step)⟩
  · rw [if_neg c2] at H
    have c2b0 : (a0 == 1) = false := beq_eq_false_iff_ne.mpr c2
    have c2b1 : (a0 != 1) = true := bne_iff_ne.mpr c2
    by_cases c3 : a0 = 2
    · rw [if_pos c3] at H
      have c3b0 : (a0 == 2) = true := beq_iff_eq.mpr c3
      have c3b1 : (a0 != 2) = false := bne_eq_false_iff_eq.mpr c3
      clear c3
      obtain rfl := Option.some.inj H
      go_enter Tryd.func35, Tryd.ntmps35
      go_wp2
      go_ret
      exact ⟨by first | rfl | (simp; done) | (simp [*]; done), by repeat (first | exact Drawn0.refl _ | apply Drawn0.step)⟩
    · rw [if_neg c3] at H
      have c3b0 : (a0 == 2) = false := beq_eq_false_iff_ne.mpr c3
      have c3b1 : (a0 != 2) = true := bne_iff_ne.mpr c3
      by_cases c4 : a0 = 3
      · rw [if_pos c4] at H
        have c4b0 : (a0 == 3) = true := beq_iff_eq.mpr c4
        have c4b1 : (a0 != 3) = false := bne_eq_false_iff_eq.mpr c4
        clear c4
        obtain rfl := Option.some.inj H
        go_enter Tryd.func35, Tryd.ntmps35
        go_wp2
        go_ret
        exact ⟨by first | rfl | (simp; done) | (simp [*]; done), by repeat (first | exact Drawn0.refl _ | apply Drawn0.step)⟩
      · rw [if_neg c4] at H
        have c4b0 : (a0 == 3) = false := beq_eq_false_iff_ne.mpr c4
        have c4b1 : (a0 != 3) = true := bne_iff_ne.mpr c4
        by_cases c5 : a0 = 4
        · rw [if_pos c5] at H
          have c5b0 : (a0 == 4) = true := beq_iff_eq.mpr c5
          have c5b1 : (a0 != 4) = false := bne_eq_false_iff_eq.mpr c5
          clear c5
          obtain rfl := Option.some.inj H
          go_enter Tryd.func35, Tryd.ntmps35
          go_wp2
          go_ret
          exact ⟨by first | rfl | (simp; done) | (simp [*]; done), by repeat (first | exact Drawn0.refl _ | apply Drawn0.step)⟩
        · rw [if_neg c5] at H
          have c5b0 : (a0 == 4) = false := beq_eq_false_iff_ne.mpr c5
          have c5b1 : (a0 != 4) = true := bne_iff_ne.mpr c5
          obtain rfl := Option.some.inj H
          go_enter Tryd.func35, Tryd.ntmps35
          go_wp2
          go_ret
          exact ⟨by first | rfl | (simp; done) | (simp [*]; done), by repeat (first | exact Drawn0.refl _ | apply Drawn0.step)⟩

/-! ### turncockref15_Window: function 32 -/
def turncockref15_Window.f (a0 : Int) (a1 : Int) : Option (Int) := (turncockref15_Secs.f a1).bind fun t250 => (if t250 = 0 then (some 0) else ((turncockref1_Hold.f a0).bind fun t251 => ((turncockref15_Secs.f a1).bind fun t252 => (if t252 = 0 then (none) else (some (wrap64 (Int.tdiv t251 t252)))))))
set_option maxHeartbeats 8000000 in
set_option maxRecDepth 100000 in
theorem turncockref15_Window.calls (a0 : Int) (a1 : Int) (r : Int) (w : World) (h : turncockref15_Window.f a0 a1 = some r) :
    Calls Tryd.prog 32 #[.int .i64 a0, .int .i64 a1] w fun e w' => e = .returned (.int .i64 r) ∧ Drawn0 w w' := by
  have H : ((turncockref15_Secs.f a1).bind fun t250 => (if t250 = 0 then (some 0) else ((turncockref1_Hold.f a0).bind fun t251 => ((turncockref15_Secs.f a1).bind fun t252 => (if t252 = 0 then (none) else (some (wrap64 (Int.tdiv t251 t252)))))))) = some r := h
  clear h
  replace H := Option.bind_eq_some_iff.mp H
  obtain ⟨t250, A30, H⟩ := H
  replace H : (if t250 = 0 then (some 0) else ((turncockref1_Hold.f a0).bind fun t251 => ((turncockref15_Secs.f a1).bind fun t252 => (if t252 = 0 then (none) else (some (wrap64 (Int.tdiv t251 t252))))))) = some r := H
  have A3 := Aside0.mk A30
  clear A30
  by_cases c4 : t250 = 0
  · rw [if_pos c4] at H
    have c4b0 : (t250 == 0) = true := beq_iff_eq.mpr c4
    have c4b1 : (t250 != 0) = false := bne_eq_false_iff_eq.mpr c4
    clear c4
    obtain rfl := Option.some.inj H
    go_enter Tryd.func32, Tryd.ntmps32
    go_wp2_with (first | ((with_reducible refine gate_callee (f := 35) rfl ?_); refine goesL_ (some 6) rfl rfl Tryd.func35 (by kernel_rfl) rfl #[.int .i64 a1] rfl (by (try simp only [List.map_toArray, List.map_cons, List.map_nil]); first | done | rfl | (simp only [List.length_drop, List.length_take]; rfl)) ?_; (with_reducible refine (turncockref15_Secs.calls a1 t250 _ A3.out).mono ?_); rintro e w' ⟨rfl, ⟨nd, rfl⟩⟩; refine ⟨_, rfl, ?_⟩))
    go_ret
    exact ⟨by first | rfl | (simp; done) | (simp [*]; done), by repeat (first | exact Drawn0.refl _ | apply Drawn0.step)⟩
  · rw [if_neg c4] at H
    have c4b0 : (t250 == 0) = false := beq_eq_false_iff_ne.mpr c4
    have c4b1 : (t250 != 0) = true := bne_iff_ne.mpr c4
    replace H := Option.bind_eq_some_iff.mp H
    obtain ⟨t251, A50, H⟩ := H
    replace H : ((turncockref15_Secs.f a1).bind fun t252 => (if t252 = 0 then (none) else (some (wrap64 (Int.tdiv t251 t252))))) = some r := H
    have A5 := Aside0.mk A50
    clear A50
    replace H := Option.bind_eq_some_iff.mp H
    obtain ⟨t252, A60, H⟩ := H
    replace H : (if t252 = 0 then (none) else (some (wrap64 (Int.tdiv t251 t252)))) = some r := H
    have A6 := Aside0.mk A60
    clear A60
    by_cases c7 : t252 = 0
    · rw [if_pos c7] at H
      exact absurd H (by simp)
    · rw [if_neg c7] at H
      have c7b0 : (t252 == 0) = false := beq_eq_false_iff_ne.mpr c7
      have c7b1 : (t252 != 0) = true := bne_iff_ne.mpr c7
      obtain rfl := Option.some.inj H
      go_enter Tryd.func32, Tryd.ntmps32
      go_wp2_with (first | ((with_reducible refine gate_callee (f := 35) rfl ?_); refine goesL_ (some 6) rfl rfl Tryd.func35 (by kernel_rfl) rfl #[.int .i64 a1] rfl (by (try simp only [List.map_toArray, List.map_cons, List.map_nil]); first | done | rfl | (simp only [List.length_drop, List.length_take]; rfl)) ?_; (with_reducible refine (turncockref15_Secs.calls a1 t250 _ A3.out).mono ?_); rintro e w' ⟨rfl, ⟨nd, rfl⟩⟩; refine ⟨_, rfl, ?_⟩) | ((with_reducible refine gate_callee (f := 34) rfl ?_); refine goesL_ (some 9) rfl rfl Tryd.func34 (by kernel_rfl) rfl #[.int .i64 a0] rfl (by (try simp only [List.map_toArray, List.map_cons, List.map_nil]); first | done | rfl | (simp only [List.length_drop, List.length_take]; rfl)) ?_; (with_reducible refine (turncockref1_Hold.calls a0 t251 _ A5.out).mono ?_); rintro e w' ⟨rfl, ⟨nd, rfl⟩⟩; refine ⟨_, rfl, ?_⟩) | ((with_reducible refine gate_callee (f := 35) rfl ?_); refine goesL_ (some 11) rfl rfl Tryd.func35 (by kernel_rfl) rfl #[.int .i64 a1] rfl (by (try simp only [List.map_toArray, List.map_cons, List.map_nil]); first | done | rfl | (simp only [List.length_drop, List.length_take]; rfl)) ?_; (with_reducible refine (turncockref15_Secs.calls a1 t252 _ A6.out).mono ?_); rintro e w' ⟨rfl, ⟨nd, rfl⟩⟩; refine ⟨_, rfl, ?_⟩))
      go_ret
      exact ⟨by first | rfl | (simp; done) | (simp [*]; done), by repeat (first | exact Drawn0.refl _ | apply Drawn0.step)⟩

/-! ### turncockref20_bar: function 55 -/
def turncockref20_bar.l0 : Nat → ByteArray → Int → Option (Bool)
  | 0, _, _ => none
  | k + 1, x0, x3 => if x3 < (x0.size : Int) then (if 0 ≤ x3 then (if (bt x0 x3) = 124 then (some true) else (turncockref20_bar.l0 k x0 (wrap64 (x3 + 1)))) else (none)) else (some false)
def turncockref20_bar.f (k : Nat) (a0 : ByteArray) : Option (Bool) := turncockref20_bar.l0 k a0 0
theorem turncockref20_bar.mono_l : ∀ k, (∀ y0 y1, LeO (turncockref20_bar.l0 k y0 y1) (turncockref20_bar.l0 (k + 1) y0 y1))
  | 0 => fun _ _ r h => by simp [turncockref20_bar.l0] at h
  | k + 1 => by
    have ih0 := turncockref20_bar.mono_l k
    · intro y0 y1
      unfold turncockref20_bar.l0
      repeat' first
      | (with_reducible exact ih0 _ _)
      | (with_reducible exact LeO.refl _)
      | (with_reducible exact LeO.none _)
      | (with_reducible refine LeO.ite ?_ ?_)
      | (with_reducible refine LeO.bind ?_ (fun _ => ?_))
      | exact ih0 _ _
      | exact LeO.none _
      | refine LeO.ite ?_ ?_
      | refine LeO.bind ?_ (fun _ => ?_)
theorem turncockref20_bar.mono : ∀ a0 k, LeO (turncockref20_bar.f k a0) (turncockref20_bar.f (k + 1) a0) := by
  intro a0 k
  have ih0 := turncockref20_bar.mono_l k
  unfold turncockref20_bar.f
  repeat' first
      | (with_reducible exact ih0 _ _)
      | (with_reducible exact LeO.refl _)
      | (with_reducible exact LeO.none _)
      | (with_reducible refine LeO.ite ?_ ?_)
      | (with_reducible refine LeO.bind ?_ (fun _ => ?_))
      | exact ih0 _ _
      | exact LeO.none _
      | refine LeO.ite ?_ ?_
      | refine LeO.bind ?_ (fun _ => ?_)
set_option maxHeartbeats 8000000 in
set_option maxRecDepth 100000 in
theorem turncockref20_bar.calls (k : Nat) (a0 : ByteArray) (r : Bool) (w : World) (h : turncockref20_bar.f k a0 = some r) :
    Calls Tryd.prog 55 #[.string a0] w fun e w' => e = .returned (.bool r) ∧ Drawn0 w w' := by
  have H : (turncockref20_bar.l0 k a0 0) = some r := h
  clear h
  have H' := Aside0.mk H
  clear H
  go_enter Tryd.func55, Tryd.ntmps55
  go_wp2
  go_loopg [3] k (fun kq v3 w' => ∃ (x3_1 : Int), v3 = .int .i64 x3_1 ∧ Aside0 (turncockref20_bar.l0 kq a0 x3_1 = some r) ∧ Aside0 (kq ≤ k) ∧ Drawn0 w w')
  case atStart => exact ⟨(0), (by first | rfl | (simp; done) | (simp [*]; done)), H', ⟨Nat.le_refl _⟩, by repeat (first | exact Drawn0.refl _ | apply Drawn0.step)⟩
  case round =>
    clear H'
    obtain ⟨x3_1, rfl, HA, HK1, ⟨m1, rfl⟩⟩ := hrel
    cases gk with
    | zero => exact absurd HA.out (by simp [turncockref20_bar.l0])
    | succ k1 =>
      have H := HA.out
      clear HA
      simp only [turncockref20_bar.l0] at H
      by_cases c2 : x3_1 < (a0.size : Int)
      · rw [if_pos c2] at H
        have c2b0 : decide (x3_1 < (a0.size : Int)) = true := decide_eq_true c2
        clear c2
        by_cases c3 : 0 ≤ x3_1
        · rw [if_pos c3] at H
          have c3b0 : decide (0 ≤ x3_1) = true := decide_eq_true c3
          clear c3
          by_cases c5 : (bt a0 x3_1) = 124
          · rw [if_pos c5] at H
            have c5b0 : ((bt a0 x3_1) == 124) = true := beq_iff_eq.mpr c5
            have c5b1 : ((bt a0 x3_1) != 124) = false := bne_eq_false_iff_eq.mpr c5
            clear c5
            obtain rfl := Option.some.inj H
            have p4 : 0 ≤ (x3_1 : Int) := of_decide_eq_true (by first | (with_reducible assumption) | assumption)
            have q4 : x3_1 < (a0.size : Int) := of_decide_eq_true (by first | (with_reducible assumption) | assumption)
            have hx4 := bt_at a0 x3_1
            replace p4 := eq_true p4
            replace q4 := eq_true q4
            go_wp2
            go_ret
            exact ⟨by first | rfl | (simp; done) | (simp [*]; done), by repeat (first | exact Drawn0.refl _ | apply Drawn0.step)⟩
          · rw [if_neg c5] at H
            have c5b0 : ((bt a0 x3_1) == 124) = false := beq_eq_false_iff_ne.mpr c5
            have c5b1 : ((bt a0 x3_1) != 124) = true := bne_iff_ne.mpr c5
            have H' := Aside0.mk H
            clear H
            have p4 : 0 ≤ (x3_1 : Int) := of_decide_eq_true (by first | (with_reducible assumption) | assumption)
            have q4 : x3_1 < (a0.size : Int) := of_decide_eq_true (by first | (with_reducible assumption) | assumption)
            have hx4 := bt_at a0 x3_1
            replace p4 := eq_true p4
            replace q4 := eq_true q4
            go_wp2
            go_roundg k1
            case measure => have := HK1.out; omega
            case rel => exact ⟨(wrap64 (x3_1 + 1)), (by first | rfl | (simp; done) | (simp [*]; done)), H', ⟨by have := HK1.out; omega⟩, by repeat (first | exact Drawn0.refl _ | apply Drawn0.step)⟩
        · rw [if_neg c3] at H
          exact absurd H (by simp)
      · rw [if_neg c2] at H
        have c2b0 : decide (x3_1 < (a0.size : Int)) = false := decide_eq_false c2
        clear c2
        obtain rfl := Option.some.inj H
        go_wp2
        go_ret
        exact ⟨by first | rfl | (simp; done) | (simp [*]; done), by repeat (first | exact Drawn0.refl _ | apply Drawn0.step)⟩

/-! ### turncockref15_Unit: function 56 -/
def turncockref15_Unit.f (a0 : Int) : Option (ByteArray) := if a0 = 1 then (some (⟨#[115, 101, 99, 111, 110, 100]⟩ : ByteArray)) else (if a0 = 2 then (some (⟨#[109, 105, 110, 117, 116, 101]⟩ : ByteArray)) else (if a0 = 3 then (some (⟨#[104, 111, 117, 114]⟩ : ByteArray)) else (if a0 = 4 then (some (⟨#[100, 97, 121]⟩ : ByteArray)) else (some (⟨#[]⟩ : ByteArray)))))
set_option maxHeartbeats 8000000 in
set_option maxRecDepth 100000 in
theorem turncockref15_Unit.calls (a0 : Int) (r : ByteArray) (w : World) (h : turncockref15_Unit.f a0 = some r) :
    Calls Tryd.prog 56 #[.int .i64 a0] w fun e w' => e = .returned (.string r) ∧ Drawn0 w w' := by
  have H : (if a0 = 1 then (some (⟨#[115, 101, 99, 111, 110, 100]⟩ : ByteArray)) else (if a0 = 2 then (some (⟨#[109, 105, 110, 117, 116, 101]⟩ : ByteArray)) else (if a0 = 3 then (some (⟨#[104, 111, 117, 114]⟩ : ByteArray)) else (if a0 = 4 then (some (⟨#[100, 97, 121]⟩ : ByteArray)) else (some (⟨#[]⟩ : ByteArray)))))) = some r := h
  clear h
  by_cases c2 : a0 = 1
  · rw [if_pos c2] at H
    have c2b0 : (a0 == 1) = true := beq_iff_eq.mpr c2
    have c2b1 : (a0 != 1) = false := bne_eq_false_iff_eq.mpr c2
    clear c2
    obtain rfl := Option.some.inj H
    go_enter Tryd.func56, Tryd.ntmps56
    go_wp2
    go_ret
    exact ⟨by first | rfl | (simp; done) | (simp [*]; done), by repeat (first | exact Drawn0.refl _ | apply Drawn0.step)⟩
  · rw [if_neg c2] at H
    have c2b0 : (a0 == 1) = false := beq_eq_false_iff_ne.mpr c2
    have c2b1 : (a0 != 1) = true := bne_iff_ne.mpr c2
    by_cases c3 : a0 = 2
    · rw [if_pos c3] at H
      have c3b0 : (a0 == 2) = true := beq_iff_eq.mpr c3
      have c3b1 : (a0 != 2) = false := bne_eq_false_iff_eq.mpr c3
      clear c3
      obtain rfl := Option.some.inj H
      go_enter Tryd.func56, Tryd.ntmps56
      go_wp2
      go_ret
      exact ⟨by first | rfl | (simp; done) | (simp [*]; done), by repeat (first | exact Drawn0.refl _ | apply Drawn0.step)⟩
    · rw [if_neg c3] at H
      have c3b0 : (a0 == 2) = false := beq_eq_false_iff_ne.mpr c3
      have c3b1 : (a0 != 2) = true := bne_iff_ne.mpr c3
      by_cases c4 : a0 = 3
      · rw [if_pos c4] at H
        have c4b0 : (a0 == 3) = true := beq_iff_eq.mpr c4
        have c4b1 : (a0 != 3) = false := bne_eq_false_iff_eq.mpr c4
        clear c4
        obtain rfl := Option.some.inj H
        go_enter Tryd.func56, Tryd.ntmps56
        go_wp2
        go_ret
        exact ⟨by first | rfl | (simp; done) | (simp [*]; done), by repeat (first | exact Drawn0.refl _ | apply Drawn0.step)⟩
      · rw [if_neg c4] at H
        have c4b0 : (a0 == 3) = false := beq_eq_false_iff_ne.mpr c4
        have c4b1 : (a0 != 3) = true := bne_iff_ne.mpr c4
        by_cases c5 : a0 = 4
        · rw [if_pos c5] at H
          have c5b0 : (a0 == 4) = true := beq_iff_eq.mpr c5
          have c5b1 : (a0 != 4) = false := bne_eq_false_iff_eq.mpr c5
          clear c5
          obtain rfl := Option.some.inj H
          go_enter Tryd.func56, Tryd.ntmps56
          go_wp2
          go_ret
          exact ⟨by first | rfl | (simp; done) | (simp [*]; done), by repeat (first | exact Drawn0.refl _ | apply Drawn0.step)⟩
        · rw [if_neg c5] at H
          have c5b0 : (a0 == 4) = false := beq_eq_false_iff_ne.mpr c5
          have c5b1 : (a0 != 4) = true := bne_iff_ne.mpr c5
          obtain rfl := Option.some.inj H
          go_enter Tryd.func56, Tryd.ntmps56
          go_wp2
          go_ret
          exact ⟨by first | rfl | (simp; done) | (simp [*]; done), by repeat (first | exact Drawn0.refl _ | apply Drawn0.step)⟩

/-! ### turncockref1_Digits: function 57 -/
def turncockref1_Digits.l0 : Nat → Int → ByteArray → Option (ByteArray)
  | 0, _, _ => none
  | k + 1, x3, x4 => if x3 > 0 then ((some (([(wrap64 (48 + (Int.tmod x3 10))) % 256] : List Int) : List Int)).bind fun y254 => (if (strOfNums y254).size + x4.size ≤ 9223372036854775807 then (turncockref1_Digits.l0 k (wrap64 (Int.tdiv x3 10)) ((strOfNums y254) ++ x4)) else (none))) else (some x4)
def turncockref1_Digits.f (k : Nat) (a0 : Int) : Option (ByteArray) := (turncockref1_Hold.f a0).bind fun t253 => (if t253 = 0 then (some (⟨#[48]⟩ : ByteArray)) else (turncockref1_Digits.l0 k t253 (⟨#[]⟩ : ByteArray)))
theorem turncockref1_Digits.mono_l : ∀ k, (∀ y0 y1, LeO (turncockref1_Digits.l0 k y0 y1) (turncockref1_Digits.l0 (k + 1) y0 y1))
  | 0 => fun _ _ r h => by simp [turncockref1_Digits.l0] at h
  | k + 1 => by
    have ih0 := turncockref1_Digits.mono_l k
    · intro y0 y1
      unfold turncockref1_Digits.l0
      repeat' first
      | (with_reducible exact ih0 _ _)
      | (with_reducible exact LeO.refl _)
      | (with_reducible exact LeO.none _)
      | (with_reducible refine LeO.ite ?_ ?_)
      | (with_reducible refine LeO.bind ?_ (fun _ => ?_))
      | exact ih0 _ _
      | exact LeO.none _
      | refine LeO.ite ?_ ?_
      | refine LeO.bind ?_ (fun _ => ?_)
theorem turncockref1_Digits.mono : ∀ a0 k, LeO (turncockref1_Digits.f k a0) (turncockref1_Digits.f (k + 1) a0) := by
  intro a0 k
  have ih0 := turncockref1_Digits.mono_l k
  unfold turncockref1_Digits.f
  repeat' first
      | (with_reducible exact ih0 _ _)
      | (with_reducible exact LeO.refl _)
      | (with_reducible exact LeO.none _)
      | (with_reducible refine LeO.ite ?_ ?_)
      | (with_reducible refine LeO.bind ?_ (fun _ => ?_))
      | exact ih0 _ _
      | exact LeO.none _
      | refine LeO.ite ?_ ?_
      | refine LeO.bind ?_ (fun _ => ?_)
set_option maxHeartbeats 8000000 in
set_option maxRecDepth 100000 in
theorem turncockref1_Digits.calls (k : Nat) (a0 : Int) (r : ByteArray) (w : World) (h : turncockref1_Digits.f k a0 = some r) :
    Calls Tryd.prog 57 #[.int .i64 a0] w fun e w' => e = .returned (.string r) ∧ Below w.heap.size w w' := by
  have HB := Aside0.mk (Below.refl w.heap.size w)
  have H : ((turncockref1_Hold.f a0).bind fun t253 => (if t253 = 0 then (some (⟨#[48]⟩ : ByteArray)) else (turncockref1_Digits.l0 k t253 (⟨#[]⟩ : ByteArray)))) = some r := h
  clear h
  replace H := Option.bind_eq_some_iff.mp H
  obtain ⟨t253, A20, H⟩ := H
  replace H : (if t253 = 0 then (some (⟨#[48]⟩ : ByteArray)) else (turncockref1_Digits.l0 k t253 (⟨#[]⟩ : ByteArray))) = some r := H
  have A2 := Aside0.mk A20
  clear A20
  by_cases c3 : t253 = 0
  · rw [if_pos c3] at H
    have c3b0 : (t253 == 0) = true := beq_iff_eq.mpr c3
    have c3b1 : (t253 != 0) = false := bne_eq_false_iff_eq.mpr c3
    clear c3
    obtain rfl := Option.some.inj H
    go_enter Tryd.func57, Tryd.ntmps57
    go_wp2_with (first | ((with_reducible refine gate_callee (f := 34) rfl ?_); refine goesL_ (some 6) rfl rfl Tryd.func34 (by kernel_rfl) rfl #[.int .i64 a0] rfl (by (try simp only [List.map_toArray, List.map_cons, List.map_nil]); first | done | rfl | (simp only [List.length_drop, List.length_take]; rfl)) ?_; (with_reducible refine (turncockref1_Hold.calls a0 t253 _ A2.out).mono ?_); rintro e w' ⟨rfl, ⟨nd, rfl⟩⟩; refine ⟨_, rfl, ?_⟩))
    go_ret
    exact ⟨by first | rfl | (simp [errW_none, errW_some] <;> rfl) | (simp [*, errW_none, errW_some] <;> rfl), by repeat (first | (with_reducible first | exact HB.out | apply below_alloc | apply pw_below_drewN | apply below_drew1) | exact HB.out)⟩
  · rw [if_neg c3] at H
    have c3b0 : (t253 == 0) = false := beq_eq_false_iff_ne.mpr c3
    have c3b1 : (t253 != 0) = true := bne_iff_ne.mpr c3
    have H' := Aside0.mk H
    clear H
    go_enter Tryd.func57, Tryd.ntmps57
    go_wp2_with (first | ((with_reducible refine gate_callee (f := 34) rfl ?_); refine goesL_ (some 6) rfl rfl Tryd.func34 (by kernel_rfl) rfl #[.int .i64 a0] rfl (by (try simp only [List.map_toArray, List.map_cons, List.map_nil]); first | done | rfl | (simp only [List.length_drop, List.length_take]; rfl)) ?_; (with_reducible refine (turncockref1_Hold.calls a0 t253 _ A2.out).mono ?_); rintro e w' ⟨rfl, ⟨nd, rfl⟩⟩; refine ⟨_, rfl, ?_⟩))
    go_loopg [3, 4] k (fun kq v3 v4 w' => ∃ (x3_1 : Int) (x4_1 : ByteArray), v3 = .int .i64 x3_1 ∧ v4 = .string x4_1 ∧ Aside0 (turncockref1_Digits.l0 kq x3_1 x4_1 = some r) ∧ Aside0 (kq ≤ k) ∧ Aside0 (Below w.heap.size w w'))
    case atStart => exact ⟨(t253), ((⟨#[]⟩ : ByteArray)), (by first | rfl | (simp; done) | (simp [*]; done)), (by first | rfl | (simp; done) | (simp [*]; done)), H', ⟨Nat.le_refl _⟩, ⟨by repeat (first | (with_reducible first | exact HB.out | apply below_alloc | apply pw_below_drewN | apply below_drew1) | exact HB.out)⟩⟩
    case round =>
      clear H'
      try clear p2
      try clear c3
      try clear c3b0
      try clear c3b1
      obtain ⟨x3_1, x4_1, rfl, rfl, HA, HK1, HB⟩ := hrel
      cases gk with
      | zero => exact absurd HA.out (by simp [turncockref1_Digits.l0])
      | succ k1 =>
        have H := HA.out
        clear HA
        simp only [turncockref1_Digits.l0] at H
        by_cases c4 : x3_1 > 0
        · rw [if_pos c4] at H
          have c4b0 : decide (0 < x3_1) = true := decide_eq_true c4
          clear c4
          obtain ⟨y254, hy254⟩ : ∃ y_ : List Int, y_ = (([(wrap64 (48 + (Int.tmod x3_1 10))) % 256] : List Int)) := ⟨_, rfl⟩
          replace H : (if (strOfNums y254).size + x4_1.size ≤ 9223372036854775807 then (turncockref1_Digits.l0 k1 (wrap64 (Int.tdiv x3_1 10)) ((strOfNums y254) ++ x4_1)) else (none)) = some r := by first | (rw [hy254]; with_reducible exact H) | (have H2_ := (Option.bind_some _ _).symm.trans H; rw [hy254]; with_reducible exact H2_) | (have H2_ := (Option.bind_some _ _).symm.trans H; with_reducible exact H2_) | with_reducible exact H | (rw [hy254]; exact H) | exact H
          have Ny254 := Aside0.mk hy254
          clear hy254
          by_cases c5 : (strOfNums y254).size + x4_1.size ≤ 9223372036854775807
          · rw [if_pos c5] at H
            have c5b0 := eq_true c5
            have c5b1 : decide ((strOfNums y254).size + x4_1.size ≤ 9223372036854775807) = true := decide_eq_true c5
            try have c5b2 : (9223372036854775807 < (strOfNums y254).size + x4_1.size) = False := eq_false (Nat.not_lt.2 c5)
            have H' := Aside0.mk H
            clear H
            go_wp2_with (first | ((with_reducible refine gate_dst (N := 15) rfl ?_); refine Kd.R_lit (Kd.int .u8) _ 5 ?hg (N := 15) ?hd (xs := ([(wrap64 (48 + (Int.tmod x3_1 10))) % 256] : List Int)) (inner := [.int .u8 ((wrap64 (48 + (Int.tmod x3_1 10))) % 256)]) (ok := fun _ => True) (okp := fun _ => True) ?hr ?hp (fun _ hk => hk) trivial (Below.refl _ _) (Nat.le_refl _) (by simp) ?_; (case hd => rfl); (case hg => rfl); (case hr => first | (go_simp; done) | (go_simp; rfl)); (case hp => exact (Reps.one (show Kd.M (Kd.int .u8) _ _ _ ((wrap64 (48 + (Int.tmod x3_1 10))) % 256) [.int .u8 ((wrap64 (48 + (Int.tmod x3_1 10))) % 256)] from rfl) (Reps.none _ _))); intro v255 w6 ho7 hb hg_ hnew_; clear hg_ hnew_; (first | rw [← Ny254.out] at ho7 | (simp only [Int.reduceToNat] at ho7; rw [← Ny254.out] at ho7)); have n0_ := Aside0.mk (Kd.R_lower ho7 (below_size (by repeat (first | (with_reducible first | exact HB.out | apply below_alloc | apply pw_below_drewN | apply below_drew1) | exact HB.out)))); have n1_ := Aside0.mk (below_step (by repeat (first | (with_reducible first | exact HB.out | apply below_alloc | apply pw_below_drewN | apply below_drew1) | exact HB.out)) hb); clear HB; have HO256 := n0_; have HB := n1_; clear n0_ n1_; clear hb ho7; have hcv8 := own_string (P := Tryd.prog) Tryd.underlying58 Tryd.underlying5 Tryd.underlying9 (Kd.own_of_R HO256.out)))
            go_roundg k1
            case measure => have := HK1.out; omega
            case rel => exact ⟨(wrap64 (Int.tdiv x3_1 10)), ((strOfNums y254) ++ x4_1), (by first | rfl | (simp; done) | (simp [*]; done)), (by first | rfl | (simp; done) | (simp [*]; done)), H', ⟨by have := HK1.out; omega⟩, ⟨by repeat (first | (with_reducible first | exact HB.out | apply below_alloc | apply pw_below_drewN | apply below_drew1) | exact HB.out)⟩⟩
          · rw [if_neg c5] at H
            exact absurd H (by simp)
        · rw [if_neg c4] at H
          have c4b0 : decide (0 < x3_1) = false := decide_eq_false c4
          clear c4
          obtain rfl := Option.some.inj H
          go_wp2
          go_ret
          exact ⟨by first | rfl | (simp [errW_none, errW_some] <;> rfl) | (simp [*, errW_none, errW_some] <;> rfl), by repeat (first | (with_reducible first | exact HB.out | apply below_alloc | apply pw_below_drewN | apply below_drew1) | exact HB.out)⟩

/-! ### turncockref15_Start: function 75 -/
def turncockref15_Start.f (a0 : Int) (a1 : Int) : Option (Int) := (turncockref15_Window.f a0 a1).bind fun t257 => ((turncockref15_Secs.f a1).bind fun t258 => (some (wrap64 (t257 * t258))))
set_option maxHeartbeats 8000000 in
set_option maxRecDepth 100000 in
theorem turncockref15_Start.calls (a0 : Int) (a1 : Int) (r : Int) (w : World) (h : turncockref15_Start.f a0 a1 = some r) :
    Calls Tryd.prog 75 #[.int .i64 a0, .int .i64 a1] w fun e w' => e = .returned (.int .i64 r) ∧ Drawn0 w w' := by
  have H : ((turncockref15_Window.f a0 a1).bind fun t257 => ((turncockref15_Secs.f a1).bind fun t258 => (some (wrap64 (t257 * t258))))) = some r := h
  clear h
  replace H := Option.bind_eq_some_iff.mp H
  obtain ⟨t257, A30, H⟩ := H
  replace H : ((turncockref15_Secs.f a1).bind fun t258 => (some (wrap64 (t257 * t258)))) = some r := H
  have A3 := Aside0.mk A30
  clear A30
  replace H := Option.bind_eq_some_iff.mp H
  obtain ⟨t258, A40, H⟩ := H
  replace H : (some (wrap64 (t257 * t258))) = some r := H
  have A4 := Aside0.mk A40
  clear A40
  obtain rfl := Option.some.inj H
  go_enter Tryd.func75, Tryd.ntmps75
  go_wp2_with (first | ((with_reducible refine gate_callee (f := 32) rfl ?_); refine goesL_ (some 7) rfl rfl Tryd.func32 (by kernel_rfl) rfl #[.int .i64 a0, .int .i64 a1] rfl (by (try simp only [List.map_toArray, List.map_cons, List.map_nil]); first | done | rfl | (simp only [List.length_drop, List.length_take]; rfl)) ?_; (with_reducible refine (turncockref15_Window.calls a0 a1 t257 _ A3.out).mono ?_); rintro e w' ⟨rfl, ⟨nd, rfl⟩⟩; refine ⟨_, rfl, ?_⟩) | ((with_reducible refine gate_callee (f := 35) rfl ?_); refine goesL_ (some 9) rfl rfl Tryd.func35 (by kernel_rfl) rfl #[.int .i64 a1] rfl (by (try simp only [List.map_toArray, List.map_cons, List.map_nil]); first | done | rfl | (simp only [List.length_drop, List.length_take]; rfl)) ?_; (with_reducible refine (turncockref15_Secs.calls a1 t258 _ A4.out).mono ?_); rintro e w' ⟨rfl, ⟨nd, rfl⟩⟩; refine ⟨_, rfl, ?_⟩))
  go_ret
  exact ⟨by first | rfl | (simp; done) | (simp [*]; done), by repeat (first | exact Drawn0.refl _ | apply Drawn0.step)⟩

/-! ### turncockref15_End: function 58 -/
def turncockref15_End.f (a0 : Int) (a1 : Int) : Option (Int) := (turncockref15_Start.f a0 a1).bind fun t259 => ((turncockref15_Secs.f a1).bind fun t260 => (some (wrap64 (t259 + t260))))
set_option maxHeartbeats 8000000 in
set_option maxRecDepth 100000 in
theorem turncockref15_End.calls (a0 : Int) (a1 : Int) (r : Int) (w : World) (h : turncockref15_End.f a0 a1 = some r) :
    Calls Tryd.prog 58 #[.int .i64 a0, .int .i64 a1] w fun e w' => e = .returned (.int .i64 r) ∧ Drawn0 w w' := by
  have H : ((turncockref15_Start.f a0 a1).bind fun t259 => ((turncockref15_Secs.f a1).bind fun t260 => (some (wrap64 (t259 + t260))))) = some r := h
  clear h
  replace H := Option.bind_eq_some_iff.mp H
  obtain ⟨t259, A30, H⟩ := H
  replace H : ((turncockref15_Secs.f a1).bind fun t260 => (some (wrap64 (t259 + t260)))) = some r := H
  have A3 := Aside0.mk A30
  clear A30
  replace H := Option.bind_eq_some_iff.mp H
  obtain ⟨t260, A40, H⟩ := H
  replace H : (some (wrap64 (t259 + t260))) = some r := H
  have A4 := Aside0.mk A40
  clear A40
  obtain rfl := Option.some.inj H
  go_enter Tryd.func58, Tryd.ntmps58
  go_wp2_with (first | ((with_reducible refine gate_callee (f := 75) rfl ?_); refine goesL_ (some 7) rfl rfl Tryd.func75 (by kernel_rfl) rfl #[.int .i64 a0, .int .i64 a1] rfl (by (try simp only [List.map_toArray, List.map_cons, List.map_nil]); first | done | rfl | (simp only [List.length_drop, List.length_take]; rfl)) ?_; (with_reducible refine (turncockref15_Start.calls a0 a1 t259 _ A3.out).mono ?_); rintro e w' ⟨rfl, ⟨nd, rfl⟩⟩; refine ⟨_, rfl, ?_⟩) | ((with_reducible refine gate_callee (f := 35) rfl ?_); refine goesL_ (some 9) rfl rfl Tryd.func35 (by kernel_rfl) rfl #[.int .i64 a1] rfl (by (try simp only [List.map_toArray, List.map_cons, List.map_nil]); first | done | rfl | (simp only [List.length_drop, List.length_take]; rfl)) ?_; (with_reducible refine (turncockref15_Secs.calls a1 t260 _ A4.out).mono ?_); rintro e w' ⟨rfl, ⟨nd, rfl⟩⟩; refine ⟨_, rfl, ?_⟩))
  go_ret
  exact ⟨by first | rfl | (simp; done) | (simp [*]; done), by repeat (first | exact Drawn0.refl _ | apply Drawn0.step)⟩

end Go.Proofs.YtpemmaffbcbcjaaDoor.PKeyMakes
