-- WRITTEN BY THIS SESSION'S mprint.py upon the print: some functions are proved by hand
import Derived.Test.YtpemmaffbcbcjaaDoorPKeyParsesx0
import Derived.Test.YtpemmaffbcbcjaaDoorPKeyParsesx2
import Derived.Test.YtpemmaffbcbcjaaDoorPKeyParsesx6
namespace Go.Proofs.YtpemmaffbcbcjaaDoor.PKeyParses
open Go.RowKit Go.Proofs.YtpemmaffbcbcjaaDoorW.PrintWords Go.Proofs.YtpemmaffbcbcjaaDoorW.PrintLast Go.Proofs.YtpemmaffbcbcjaaDoorW.PrintMore
attribute [local go_sem] max2_int min2_int max_two min_two max_three min_three max_four min_four   -- for this text's walks alone
set_option linter.unusedVariables false
set_option linter.unusedSimpArgs false

/-! ### turncockref1_Escape: function 24 (my own) -/
theorem turncockref1_Escape.letter (c : Int) : turncockref1_letter.f c = some (decide ((97 ≤ c ∧ c ≤ 122) ∨ (65 ≤ c ∧ c ≤ 90))) := by
  unfold turncockref1_letter.f
  by_cases h1 : c ≥ 97 <;> by_cases h2 : c ≤ 122 <;> by_cases h3 : c ≥ 65 <;> by_cases h4 : c ≤ 90 <;> simp [h1, h2, h3, h4] <;> omega
theorem turncockref1_Escape.digit (c : Int) : turncockref1_digit.f c = some (decide (48 ≤ c ∧ c ≤ 57)) := by
  unfold turncockref1_digit.f
  by_cases h1 : c ≥ 48 <;> by_cases h2 : c ≤ 57 <;> simp [h1, h2] <;> omega
theorem turncockref1_Escape.self_iff (c : UInt8) : desc_itself.self (c.toNat : Int) = decide (((97 ≤ c.toNat ∧ c.toNat ≤ 122) ∨ (65 ≤ c.toNat ∧ c.toNat ≤ 90)) ∨ (48 ≤ c.toNat ∧ c.toNat ≤ 57) ∨ c.toNat = 45 ∨ c.toNat = 95 ∨ c.toNat = 46 ∨ c.toNat = 47 ∨ c.toNat = 58) := by
  have h : ∀ n : Fin 256, desc_itself.self (n.val : Int) = decide (((97 ≤ n.val ∧ n.val ≤ 122) ∨ (65 ≤ n.val ∧ n.val ≤ 90)) ∨ (48 ≤ n.val ∧ n.val ≤ 57) ∨ n.val = 45 ∨ n.val = 95 ∨ n.val = 46 ∨ n.val = 47 ∨ n.val = 58) := by decide +kernel
  exact h ⟨c.toNat, c.toNat_lt⟩
theorem turncockref1_Escape.cut_one (s : ByteArray) (i : Nat) (h : i < s.size) : s.extract i (i + 1) = ⟨#[s[i]]⟩ := by
  apply ByteArray.ext
  apply Array.toList_inj.1
  rw [Lib.extract_data, List.drop_eq_getElem_cons (by simpa using h), show i + 1 - i = 1 from by omega]
  rfl
theorem turncockref1_Escape.app (l m : List UInt8) : (⟨l.toArray⟩ : ByteArray) ++ ⟨m.toArray⟩ = ⟨(l ++ m).toArray⟩ := by
  apply ByteArray.ext
  simp [ByteArray.data_append]
def turncockref1_Escape.f (a0 : ByteArray) : Option (ByteArray) := if a0.size ≤ 1099511627776 then some ⟨(desc_Escape.all a0.data.toList).toArray⟩ else none
set_option maxHeartbeats 2000000 in
set_option maxRecDepth 100000 in
theorem turncockref1_Escape.calls (s : ByteArray) (r : ByteArray) (w : World) (h : turncockref1_Escape.f s = some r) :
    Calls Tryd.prog 24 #[.string s] w fun e w' => e = .returned (.string r) ∧ Drawn0 w w' := by
  unfold turncockref1_Escape.f at h
  split at h
  · rename_i hs
    obtain rfl := Option.some.inj h
    clear h
    go_enter Tryd.func24, Tryd.ntmps24
    go_wp2
    go_loopw [3, 4] (fun v3 v4 wr => ∃ (k : Nat) (o : ByteArray), v3 = .string o ∧ v4 = .int .i64 k ∧ k ≤ s.size ∧ o.size ≤ 3 * k ∧ Aside0 (o = ⟨(desc_Escape.all (s.data.toList.take k)).toArray⟩) ∧ Aside0 (Drawn0 w wr)) (fun _ v4 _ => s.size - (intOf v4).toNat)
    case atStart => exact ⟨0, ⟨#[]⟩, rfl, rfl, Nat.zero_le _, Nat.le_refl _, ⟨rfl⟩, ⟨Drawn0.refl _⟩⟩
    case round =>
      obtain ⟨k, o, rfl, rfl, hk, ho, HO, HW⟩ := hrel
      by_cases hlt : k < s.size
      · have HT := Aside0.mk (desc_Escape.take_snoc s k hlt)
        have hc1 : s[k].toNat < 256 := s[k].toNat_lt
        have hself := turncockref1_Escape.self_iff s[k]
        have g1 : (0 : Int) ≤ (k : Int) := by omega
        have g2 : (k : Int) ≤ (k : Int) + 1 := by omega
        have g3 : (k : Int) + 1 ≤ (s.size : Int) := by omega
        have g4 : ((k : Int) + 1).toNat = k + 1 := by omega
        have g5 : IntKind.i64.wrap ((k : Int) + 1) = (k : Int) + 1 := by rw [IntKind.wrap_i64]; omega
        have g6 : k + 1 ≤ s.size := by omega
        have g7 : k ≤ k + 1 := by omega
        have x0 := turncockref1_Escape.cut_one s k hlt
        have y0 : (⟨#[s[k]]⟩ : ByteArray).size = 1 := rfl
        have y1 : o.size + 1 ≤ 9223372036854775807 := by omega
        by_cases hL : ((97 ≤ s[k].toNat ∧ s[k].toNat ≤ 122) ∨ (65 ≤ s[k].toNat ∧ s[k].toNat ≤ 90))
        · have HL : Aside0 (decide ((97 ≤ (s[k].toNat : Int) ∧ (s[k].toNat : Int) ≤ 122) ∨ (65 ≤ (s[k].toNat : Int) ∧ (s[k].toNat : Int) ≤ 90)) = true) := ⟨decide_eq_true (by omega)⟩
          have HG : Aside0 (decide (48 ≤ (s[k].toNat : Int) ∧ (s[k].toNat : Int) ≤ 57) = false) := ⟨decide_eq_false (by omega)⟩
          have HX : Aside0 (desc_Escape.one s[k] = [s[k]]) := ⟨by unfold desc_Escape.one; rw [hself, if_pos (decide_eq_true (by omega))]⟩
          clear hL hself
          go_wp2_with (first | (go_at_call 47; (with_reducible refine (turncockref1_letter.calls _ true _ (by rw [turncockref1_Escape.letter]; exact congrArg some HL.out)).mono ?_); rintro e w' ⟨rfl, ⟨nd, rfl⟩⟩) | (go_at_call 48; (with_reducible refine (turncockref1_digit.calls _ false _ (by rw [turncockref1_Escape.digit]; exact congrArg some HG.out)).mono ?_); rintro e w' ⟨rfl, ⟨nd2, rfl⟩⟩))
          go_roundw
          case rel =>
            refine ⟨k + 1, o ++ ⟨#[s[k]]⟩, rfl, by go_num, by omega, by rw [ByteArray.size_append, y0]; omega, ⟨?_⟩, ⟨by repeat (first | exact HW.out | apply Drawn0.step)⟩⟩
            rw [HT.out, desc_Escape.all_snoc, HX.out, HO.out]
            exact turncockref1_Escape.app _ _
          case measure => simp [intOf]; omega
        · have HL : Aside0 (decide ((97 ≤ (s[k].toNat : Int) ∧ (s[k].toNat : Int) ≤ 122) ∨ (65 ≤ (s[k].toNat : Int) ∧ (s[k].toNat : Int) ≤ 90)) = false) := ⟨decide_eq_false (by omega)⟩
          by_cases hG : 48 ≤ s[k].toNat ∧ s[k].toNat ≤ 57
          · have HG : Aside0 (decide (48 ≤ (s[k].toNat : Int) ∧ (s[k].toNat : Int) ≤ 57) = true) := ⟨decide_eq_true (by omega)⟩
            have HX : Aside0 (desc_Escape.one s[k] = [s[k]]) := ⟨by unfold desc_Escape.one; rw [hself, if_pos (decide_eq_true (by omega))]⟩
            clear hL hG hself
            go_wp2_with (first | (go_at_call 47; (with_reducible refine (turncockref1_letter.calls _ false _ (by rw [turncockref1_Escape.letter]; exact congrArg some HL.out)).mono ?_); rintro e w' ⟨rfl, ⟨nd, rfl⟩⟩) | (go_at_call 48; (with_reducible refine (turncockref1_digit.calls _ true _ (by rw [turncockref1_Escape.digit]; exact congrArg some HG.out)).mono ?_); rintro e w' ⟨rfl, ⟨nd2, rfl⟩⟩))
            go_roundw
            case rel =>
              refine ⟨k + 1, o ++ ⟨#[s[k]]⟩, rfl, by go_num, by omega, by rw [ByteArray.size_append, y0]; omega, ⟨?_⟩, ⟨by repeat (first | exact HW.out | apply Drawn0.step)⟩⟩
              rw [HT.out, desc_Escape.all_snoc, HX.out, HO.out]
              exact turncockref1_Escape.app _ _
            case measure => simp [intOf]; omega
          · have HG : Aside0 (decide (48 ≤ (s[k].toNat : Int) ∧ (s[k].toNat : Int) ≤ 57) = false) := ⟨decide_eq_false (by omega)⟩
            by_cases h45 : s[k].toNat = 45
            · have e45 : ((s[k].toNat : Int) == 45) = true := beq_iff_eq.2 (by omega)
              have HX : Aside0 (desc_Escape.one s[k] = [s[k]]) := ⟨by unfold desc_Escape.one; rw [hself, if_pos (decide_eq_true (by omega))]⟩
              clear hL hG hself h45
              go_wp2_with (first | (go_at_call 47; (with_reducible refine (turncockref1_letter.calls _ false _ (by rw [turncockref1_Escape.letter]; exact congrArg some HL.out)).mono ?_); rintro e w' ⟨rfl, ⟨nd, rfl⟩⟩) | (go_at_call 48; (with_reducible refine (turncockref1_digit.calls _ false _ (by rw [turncockref1_Escape.digit]; exact congrArg some HG.out)).mono ?_); rintro e w' ⟨rfl, ⟨nd2, rfl⟩⟩))
              go_roundw
              case rel =>
                refine ⟨k + 1, o ++ ⟨#[s[k]]⟩, rfl, by go_num, by omega, by rw [ByteArray.size_append, y0]; omega, ⟨?_⟩, ⟨by repeat (first | exact HW.out | apply Drawn0.step)⟩⟩
                rw [HT.out, desc_Escape.all_snoc, HX.out, HO.out]
                exact turncockref1_Escape.app _ _
              case measure => simp [intOf]; omega
            · have e45 : ((s[k].toNat : Int) == 45) = false := beq_eq_false_iff_ne.2 (by omega)
              by_cases h95 : s[k].toNat = 95
              · have e95 : ((s[k].toNat : Int) == 95) = true := beq_iff_eq.2 (by omega)
                have HX : Aside0 (desc_Escape.one s[k] = [s[k]]) := ⟨by unfold desc_Escape.one; rw [hself, if_pos (decide_eq_true (by omega))]⟩
                clear hL hG hself h45 h95
                go_wp2_with (first | (go_at_call 47; (with_reducible refine (turncockref1_letter.calls _ false _ (by rw [turncockref1_Escape.letter]; exact congrArg some HL.out)).mono ?_); rintro e w' ⟨rfl, ⟨nd, rfl⟩⟩) | (go_at_call 48; (with_reducible refine (turncockref1_digit.calls _ false _ (by rw [turncockref1_Escape.digit]; exact congrArg some HG.out)).mono ?_); rintro e w' ⟨rfl, ⟨nd2, rfl⟩⟩))
                go_roundw
                case rel =>
                  refine ⟨k + 1, o ++ ⟨#[s[k]]⟩, rfl, by go_num, by omega, by rw [ByteArray.size_append, y0]; omega, ⟨?_⟩, ⟨by repeat (first | exact HW.out | apply Drawn0.step)⟩⟩
                  rw [HT.out, desc_Escape.all_snoc, HX.out, HO.out]
                  exact turncockref1_Escape.app _ _
                case measure => simp [intOf]; omega
              · have e95 : ((s[k].toNat : Int) == 95) = false := beq_eq_false_iff_ne.2 (by omega)
                by_cases h46 : s[k].toNat = 46
                · have e46 : ((s[k].toNat : Int) == 46) = true := beq_iff_eq.2 (by omega)
                  have HX : Aside0 (desc_Escape.one s[k] = [s[k]]) := ⟨by unfold desc_Escape.one; rw [hself, if_pos (decide_eq_true (by omega))]⟩
                  clear hL hG hself h45 h95 h46
                  go_wp2_with (first | (go_at_call 47; (with_reducible refine (turncockref1_letter.calls _ false _ (by rw [turncockref1_Escape.letter]; exact congrArg some HL.out)).mono ?_); rintro e w' ⟨rfl, ⟨nd, rfl⟩⟩) | (go_at_call 48; (with_reducible refine (turncockref1_digit.calls _ false _ (by rw [turncockref1_Escape.digit]; exact congrArg some HG.out)).mono ?_); rintro e w' ⟨rfl, ⟨nd2, rfl⟩⟩))
                  go_roundw
                  case rel =>
                    refine ⟨k + 1, o ++ ⟨#[s[k]]⟩, rfl, by go_num, by omega, by rw [ByteArray.size_append, y0]; omega, ⟨?_⟩, ⟨by repeat (first | exact HW.out | apply Drawn0.step)⟩⟩
                    rw [HT.out, desc_Escape.all_snoc, HX.out, HO.out]
                    exact turncockref1_Escape.app _ _
                  case measure => simp [intOf]; omega
                · have e46 : ((s[k].toNat : Int) == 46) = false := beq_eq_false_iff_ne.2 (by omega)
                  by_cases h47 : s[k].toNat = 47
                  · have e47 : ((s[k].toNat : Int) == 47) = true := beq_iff_eq.2 (by omega)
                    have HX : Aside0 (desc_Escape.one s[k] = [s[k]]) := ⟨by unfold desc_Escape.one; rw [hself, if_pos (decide_eq_true (by omega))]⟩
                    clear hL hG hself h45 h95 h46 h47
                    go_wp2_with (first | (go_at_call 47; (with_reducible refine (turncockref1_letter.calls _ false _ (by rw [turncockref1_Escape.letter]; exact congrArg some HL.out)).mono ?_); rintro e w' ⟨rfl, ⟨nd, rfl⟩⟩) | (go_at_call 48; (with_reducible refine (turncockref1_digit.calls _ false _ (by rw [turncockref1_Escape.digit]; exact congrArg some HG.out)).mono ?_); rintro e w' ⟨rfl, ⟨nd2, rfl⟩⟩))
                    go_roundw
                    case rel =>
                      refine ⟨k + 1, o ++ ⟨#[s[k]]⟩, rfl, by go_num, by omega, by rw [ByteArray.size_append, y0]; omega, ⟨?_⟩, ⟨by repeat (first | exact HW.out | apply Drawn0.step)⟩⟩
                      rw [HT.out, desc_Escape.all_snoc, HX.out, HO.out]
                      exact turncockref1_Escape.app _ _
                    case measure => simp [intOf]; omega
                  · have e47 : ((s[k].toNat : Int) == 47) = false := beq_eq_false_iff_ne.2 (by omega)
                    by_cases h58 : s[k].toNat = 58
                    · have e58 : ((s[k].toNat : Int) == 58) = true := beq_iff_eq.2 (by omega)
                      have HX : Aside0 (desc_Escape.one s[k] = [s[k]]) := ⟨by unfold desc_Escape.one; rw [hself, if_pos (decide_eq_true (by omega))]⟩
                      clear hL hG hself h45 h95 h46 h47 h58
                      go_wp2_with (first | (go_at_call 47; (with_reducible refine (turncockref1_letter.calls _ false _ (by rw [turncockref1_Escape.letter]; exact congrArg some HL.out)).mono ?_); rintro e w' ⟨rfl, ⟨nd, rfl⟩⟩) | (go_at_call 48; (with_reducible refine (turncockref1_digit.calls _ false _ (by rw [turncockref1_Escape.digit]; exact congrArg some HG.out)).mono ?_); rintro e w' ⟨rfl, ⟨nd2, rfl⟩⟩))
                      go_roundw
                      case rel =>
                        refine ⟨k + 1, o ++ ⟨#[s[k]]⟩, rfl, by go_num, by omega, by rw [ByteArray.size_append, y0]; omega, ⟨?_⟩, ⟨by repeat (first | exact HW.out | apply Drawn0.step)⟩⟩
                        rw [HT.out, desc_Escape.all_snoc, HX.out, HO.out]
                        exact turncockref1_Escape.app _ _
                      case measure => simp [intOf]; omega
                    · have e58 : ((s[k].toNat : Int) == 58) = false := beq_eq_false_iff_ne.2 (by omega)
                      have HX : Aside0 (desc_Escape.one s[k] = [37, desc_Escape.HEX.getD (s[k].toNat / 16) 0, desc_Escape.HEX.getD (s[k].toNat % 16) 0]) := ⟨by unfold desc_Escape.one; rw [hself, if_neg (by simp; omega)]⟩
                      clear hL hG hself h45 h95 h46 h47 h58
                      have f0 : (0 : Int) ≤ (s[k].toNat : Int) / 16 := by omega
                      have f1 : (s[k].toNat : Int) / 16 + 1 ≤ 16 := by omega
                      have f1a : (s[k].toNat : Int) / 16 ≤ 16 := by omega
                      have f1b : (s[k].toNat : Int) / 16 ≤ (s[k].toNat : Int) / 16 + 1 := by omega
                      have f2 : (0 : Int) ≤ (s[k].toNat : Int) % 16 := by omega
                      have f3 : (s[k].toNat : Int) % 16 + 1 ≤ 16 := by omega
                      have f3b : (s[k].toNat : Int) % 16 ≤ (s[k].toNat : Int) % 16 + 1 := by omega
                      have f4 : (0 : Int) ≤ (s[k].toNat : Int) / 16 + 1 := by omega
                      have f5 : (0 : Int) ≤ (s[k].toNat : Int) % 16 + 1 := by omega
                      have f6 : (s[k].toNat : Int) % 16 ≤ 16 := by omega
                      have w0 : IntKind.u8.wrap (Int.tdiv (s[k].toNat : Int) 16) = (s[k].toNat : Int) / 16 := by rw [IntKind.wrap_u8, Int.tdiv_eq_ediv_of_nonneg (by omega)]; omega
                      have w0a : IntKind.u8.wrap ((s[k].toNat : Int) / 16) = (s[k].toNat : Int) / 16 := by rw [IntKind.wrap_u8]; omega
                      have w0b : Int.tmod (s[k].toNat : Int) 16 = (s[k].toNat : Int) % 16 := by rw [Int.tmod_eq_emod_of_nonneg (by omega)]
                      have w0c : IntKind.u8.wrap ((s[k].toNat : Int) % 16) = (s[k].toNat : Int) % 16 := by rw [IntKind.wrap_u8]; omega
                      have w1 : IntKind.u8.wrap ((s[k].toNat : Int) / 16 + 1) = (s[k].toNat : Int) / 16 + 1 := by rw [IntKind.wrap_u8]; omega
                      have w2 : IntKind.u8.wrap ((s[k].toNat : Int) % 16 + 1) = (s[k].toNat : Int) % 16 + 1 := by rw [IntKind.wrap_u8]; omega
                      have w3 : ((s[k].toNat : Int) / 16).toNat = s[k].toNat / 16 := by omega
                      have w4 : ((s[k].toNat : Int) / 16 + 1).toNat = s[k].toNat / 16 + 1 := by omega
                      have w5 : ((s[k].toNat : Int) % 16).toNat = s[k].toNat % 16 := by omega
                      have w6 : ((s[k].toNat : Int) % 16 + 1).toNat = s[k].toNat % 16 + 1 := by omega
                      have x1 := desc_Escape.hexcut ⟨s[k].toNat / 16, by omega⟩
                      have x2 := desc_Escape.hexcut ⟨s[k].toNat % 16, by omega⟩
                      simp only [] at x1 x2
                      generalize desc_Escape.HEX.getD (s[k].toNat / 16) 0 = b1 at x1 HX
                      generalize desc_Escape.HEX.getD (s[k].toNat % 16) 0 = b2 at x2 HX
                      have z1 : (⟨#[37]⟩ : ByteArray).size = 1 := rfl
                      have z2 : (⟨#[b1]⟩ : ByteArray).size = 1 := rfl
                      have z3 : (⟨#[b2]⟩ : ByteArray).size = 1 := rfl
                      have z7 : o.size + 1 + 1 ≤ 9223372036854775807 := by omega
                      have z8 : o.size + 1 + 1 + 1 ≤ 9223372036854775807 := by omega
                      go_wp2_with (first | (go_at_call 47; (with_reducible refine (turncockref1_letter.calls _ false _ (by rw [turncockref1_Escape.letter]; exact congrArg some HL.out)).mono ?_); rintro e w' ⟨rfl, ⟨nd, rfl⟩⟩) | (go_at_call 48; (with_reducible refine (turncockref1_digit.calls _ false _ (by rw [turncockref1_Escape.digit]; exact congrArg some HG.out)).mono ?_); rintro e w' ⟨rfl, ⟨nd2, rfl⟩⟩))
                      go_quiet (fail)
                      go_wp2
                      go_roundw
                      case rel =>
                        refine ⟨k + 1, o ++ ⟨#[37]⟩ ++ ⟨#[b1]⟩ ++ ⟨#[b2]⟩, rfl, by go_num, by omega, by rw [ByteArray.size_append, ByteArray.size_append, ByteArray.size_append, z1, z2, z3]; omega, ⟨?_⟩, ⟨by repeat (first | exact HW.out | apply Drawn0.step)⟩⟩
                        rw [HT.out, desc_Escape.all_snoc, HX.out, HO.out]
                        rw [show (⟨#[37]⟩ : ByteArray) = ⟨[(37 : UInt8)].toArray⟩ from rfl, show (⟨#[b1]⟩ : ByteArray) = ⟨[b1].toArray⟩ from rfl, show (⟨#[b2]⟩ : ByteArray) = ⟨[b2].toArray⟩ from rfl, turncockref1_Escape.app, turncockref1_Escape.app, turncockref1_Escape.app, List.append_assoc, List.append_assoc]
                        rfl
                      case measure => simp [intOf]; omega
      · have e : s.data.toList.take k = s.data.toList := List.take_of_length_le (by simp; omega)
        rw [e] at HO
        clear e
        go_wp2
        go_ret
        exact ⟨by rw [← HO.out]; rfl, by repeat (first | exact HW.out | apply Drawn0.step)⟩
  · cases h

/-! ### turncockref1_DescText: function 18 -/
def turncockref1_DescText.l0 : Nat → ByteArray → Int → List (S47) → Option (ByteArray)
  | 0, _, _, _ => none
  | k + 1, x3, x4, x238000 => if x4 < (x238000.length : Int) then (if x4 > 0 then (if x3.size + 1 ≤ 9223372036854775807 then (if 0 ≤ x4 then ((turncockref1_Escape.f ((rd_T47 x238000 x4).f0)).bind fun t240 => (if x3.size + 1 + t240.size ≤ 9223372036854775807 then (if x3.size + 1 + t240.size + 1 ≤ 9223372036854775807 then ((turncockref1_Escape.f ((rd_T47 x238000 x4).f1)).bind fun t242 => (if x3.size + 1 + t240.size + 1 + t242.size ≤ 9223372036854775807 then (turncockref1_DescText.l0 k ((((x3 ++ (⟨#[44]⟩ : ByteArray)) ++ t240) ++ (⟨#[61]⟩ : ByteArray)) ++ t242) (wrap64 (x4 + 1)) x238000) else (none))) else (none)) else (none))) else (none)) else (none)) else (if 0 ≤ x4 then ((turncockref1_Escape.f ((rd_T47 x238000 x4).f0)).bind fun t244 => (if x3.size + t244.size ≤ 9223372036854775807 then (if x3.size + t244.size + 1 ≤ 9223372036854775807 then ((turncockref1_Escape.f ((rd_T47 x238000 x4).f1)).bind fun t246 => (if x3.size + t244.size + 1 + t246.size ≤ 9223372036854775807 then (turncockref1_DescText.l0 k (((x3 ++ t244) ++ (⟨#[61]⟩ : ByteArray)) ++ t246) (wrap64 (x4 + 1)) x238000) else (none))) else (none)) else (none))) else (none))) else (some x3)
def turncockref1_DescText.f (k : Nat) (l0_0 : List (S47)) : Option (ByteArray) := (turncockref1_CheckDesc.f k l0_0).bind fun t238 => (if t238 = true then (turncockref1_DescText.l0 k (⟨#[]⟩ : ByteArray) 0 l0_0) else (some (⟨#[]⟩ : ByteArray)))
theorem turncockref1_DescText.mono_l : ∀ k, (∀ y0 y1 y2, LeO (turncockref1_DescText.l0 k y0 y1 y2) (turncockref1_DescText.l0 (k + 1) y0 y1 y2))
  | 0 => fun _ _ _ r h => by simp [turncockref1_DescText.l0] at h
  | k + 1 => by
    have ih0 := turncockref1_DescText.mono_l k
    · intro y0 y1 y2
      unfold turncockref1_DescText.l0
      repeat' first
      | (with_reducible exact ih0 _ _ _)
      | (with_reducible exact turncockref1_CheckDesc.mono _ _)
      | (with_reducible exact LeO.refl _)
      | (with_reducible exact LeO.none _)
      | (with_reducible refine LeO.ite ?_ ?_)
      | (with_reducible refine LeO.bind ?_ (fun _ => ?_))
      | exact ih0 _ _ _
      | exact turncockref1_CheckDesc.mono _ _
      | exact LeO.none _
      | refine LeO.ite ?_ ?_
      | refine LeO.bind ?_ (fun _ => ?_)
theorem turncockref1_DescText.mono : ∀ a0 k, LeO (turncockref1_DescText.f k a0) (turncockref1_DescText.f (k + 1) a0) := by
  intro a0 k
  have ih0 := turncockref1_DescText.mono_l k
  unfold turncockref1_DescText.f
  repeat' first
      | (with_reducible exact ih0 _ _ _)
      | (with_reducible exact turncockref1_CheckDesc.mono _ _)
      | (with_reducible exact LeO.refl _)
      | (with_reducible exact LeO.none _)
      | (with_reducible refine LeO.ite ?_ ?_)
      | (with_reducible refine LeO.bind ?_ (fun _ => ?_))
      | exact ih0 _ _ _
      | exact turncockref1_CheckDesc.mono _ _
      | exact LeO.none _
      | refine LeO.ite ?_ ?_
      | refine LeO.bind ?_ (fun _ => ?_)
set_option maxHeartbeats 8000000 in
set_option maxRecDepth 100000 in
theorem turncockref1_DescText.calls (k : Nat) (A0_0 : Option Addr) (c0_0 : Nat) (l0_0 : List (S47)) (r : ByteArray) (w : World) (hr0_0 : Kd.C k47 w A0_0 l0_0.length l0_0) (hc0_0 : l0_0.length ≤ c0_0) (h : turncockref1_DescText.f k l0_0 = some r) :
    Calls Tryd.prog 18 #[.agg #[.slice A0_0 l0_0.length c0_0]] w fun e w' => e = .returned (.string r) ∧ Below w.heap.size w w' := by
  have hu24 := Tryd.underlying24
  have HR0_0 := Aside0.mk hr0_0
  have HC0_0 := Aside0.mk hc0_0
  clear hr0_0 hc0_0
  have HB := Aside0.mk (Below.refl w.heap.size w)
  have H : ((turncockref1_CheckDesc.f k l0_0).bind fun t238 => (if t238 = true then (turncockref1_DescText.l0 k (⟨#[]⟩ : ByteArray) 0 l0_0) else (some (⟨#[]⟩ : ByteArray)))) = some r := h
  clear h
  replace H := Option.bind_eq_some_iff.mp H
  obtain ⟨t238, A20, H⟩ := H
  replace H : (if t238 = true then (turncockref1_DescText.l0 k (⟨#[]⟩ : ByteArray) 0 l0_0) else (some (⟨#[]⟩ : ByteArray))) = some r := H
  have A2 := Aside0.mk A20
  clear A20
  by_cases c3 : t238 = true
  · subst c3
    have H1 : (turncockref1_DescText.l0 k (⟨#[]⟩ : ByteArray) 0 l0_0) = some r := by rw [if_pos rfl] at H; exact H
    clear H
    have H := H1
    clear H1
    have H' := Aside0.mk H
    clear H
    go_enter Tryd.func18, Tryd.ntmps18
    go_wp2_with (first | ((with_reducible refine gate_dst (N := 1) rfl ?_); refine box_event ?hg (N := 1) ?hd (cs := #[.slice A0_0 l0_0.length c0_0]) (t := 24) ?hr ?_; (case hd => rfl); (case hg => rfl); (case hr => first | (go_simp; done) | (go_simp; rfl)); intro gb237 hg w4 hbox hb; have n0_ := Aside0.mk (below_step (by repeat (first | (with_reducible first | exact HB.out | apply below_alloc | apply pw_below_drewN | apply below_drew1) | exact HB.out)) hb); have n1_ := Aside0.mk (hbox); have n2_ := Aside0.mk ((by rw [hg]; exact (below_size (by repeat (first | (with_reducible first | exact HB.out | apply below_alloc | apply pw_below_drewN | apply below_drew1) | exact HB.out))) : w.heap.size ≤ gb237)); have n3_ := Aside0.mk ((by rw [hg]; exact (below_size (by repeat (first | (with_reducible first | exact HB.out | apply below_alloc | apply pw_below_drewN | apply below_drew1) | exact HB.out))) : w.heap.size ≤ gb237)); clear HB; have HB := n0_; have BK237 := n1_; have GW237 := n2_; have GE237 := n3_; clear n0_ n1_ n2_ n3_; clear hb hbox hg; have hcz5_0 : w4.cell? ⟨gb237, 0, none⟩ = some (.slice A0_0 l0_0.length c0_0) := (blk_cell BK237.out 0).trans rfl; have hfz5_0 := blk_frozen BK237.out 0) | (go_at_call 17; (with_reducible refine (turncockref1_CheckDesc.calls k _ _ l0_0 true _ ?side1 ?side2 A2.out).mono ?_); (case side1 => repeat (first | exact (Kd.C_below HR0_0.out HB.out) | (with_reducible refine Kd.C_alloc ?_ _) | (with_reducible refine Kd.C_drewN ?_ _) | (with_reducible refine Kd.C_drew ?_))); (case side2 => exact HC0_0.out); rintro e w6 ⟨rfl, hb⟩; have n0_ := Aside0.mk (blk_below (g := gb237) (o := .cells #[.slice A0_0 l0_0.length c0_0] 24 (0, 0)) (by (with_reducible repeat (first | refine blk_drewN ?_ _ | refine blk_drew ?_ | refine blk_alloc ?_ _)); exact BK237.out) hb); have n1_ := Aside0.mk (below_step (by repeat (first | (with_reducible first | exact HB.out | apply below_alloc | apply pw_below_drewN | apply below_drew1 | refine below_set ?_ GE237.out) | exact HB.out)) hb); clear BK237; clear HB; have BK237 := n0_; have HB := n1_; clear n0_ n1_; (try clear hb); (try clear hb2); (try clear hk); (try clear hi)))
    repeat (go_quiet (first | ((with_reducible refine gate_dst (N := 1) rfl ?_); refine box_event ?hg (N := 1) ?hd (cs := #[.slice A0_0 l0_0.length c0_0]) (t := 24) ?hr ?_; (case hd => rfl); (case hg => rfl); (case hr => first | (go_simp; done) | (go_simp; rfl)); intro gb237 hg w4 hbox hb; have n0_ := Aside0.mk (below_step (by repeat (first | (with_reducible first | exact HB.out | apply below_alloc | apply pw_below_drewN | apply below_drew1) | exact HB.out)) hb); have n1_ := Aside0.mk (hbox); have n2_ := Aside0.mk ((by rw [hg]; exact (below_size (by repeat (first | (with_reducible first | exact HB.out | apply below_alloc | apply pw_below_drewN | apply below_drew1) | exact HB.out))) : w.heap.size ≤ gb237)); have n3_ := Aside0.mk ((by rw [hg]; exact (below_size (by repeat (first | (with_reducible first | exact HB.out | apply below_alloc | apply pw_below_drewN | apply below_drew1) | exact HB.out))) : w.heap.size ≤ gb237)); clear HB; have HB := n0_; have BK237 := n1_; have GW237 := n2_; have GE237 := n3_; clear n0_ n1_ n2_ n3_; clear hb hbox hg; have hcz5_0 : w4.cell? ⟨gb237, 0, none⟩ = some (.slice A0_0 l0_0.length c0_0) := (blk_cell BK237.out 0).trans rfl; have hfz5_0 := blk_frozen BK237.out 0) | (go_at_call 17; (with_reducible refine (turncockref1_CheckDesc.calls k _ _ l0_0 true _ ?side1 ?side2 A2.out).mono ?_); (case side1 => repeat (first | exact (Kd.C_below HR0_0.out HB.out) | (with_reducible refine Kd.C_alloc ?_ _) | (with_reducible refine Kd.C_drewN ?_ _) | (with_reducible refine Kd.C_drew ?_))); (case side2 => exact HC0_0.out); rintro e w6 ⟨rfl, hb⟩; have n0_ := Aside0.mk (blk_below (g := gb237) (o := .cells #[.slice A0_0 l0_0.length c0_0] 24 (0, 0)) (by (with_reducible repeat (first | refine blk_drewN ?_ _ | refine blk_drew ?_ | refine blk_alloc ?_ _)); exact BK237.out) hb); have n1_ := Aside0.mk (below_step (by repeat (first | (with_reducible first | exact HB.out | apply below_alloc | apply pw_below_drewN | apply below_drew1 | refine below_set ?_ GE237.out) | exact HB.out)) hb); clear BK237; clear HB; have BK237 := n0_; have HB := n1_; clear n0_ n1_; (try clear hb); (try clear hb2); (try clear hk); (try clear hi))); try go_wp2_with (first | ((with_reducible refine gate_dst (N := 1) rfl ?_); refine box_event ?hg (N := 1) ?hd (cs := #[.slice A0_0 l0_0.length c0_0]) (t := 24) ?hr ?_; (case hd => rfl); (case hg => rfl); (case hr => first | (go_simp; done) | (go_simp; rfl)); intro gb237 hg w4 hbox hb; have n0_ := Aside0.mk (below_step (by repeat (first | (with_reducible first | exact HB.out | apply below_alloc | apply pw_below_drewN | apply below_drew1) | exact HB.out)) hb); have n1_ := Aside0.mk (hbox); have n2_ := Aside0.mk ((by rw [hg]; exact (below_size (by repeat (first | (with_reducible first | exact HB.out | apply below_alloc | apply pw_below_drewN | apply below_drew1) | exact HB.out))) : w.heap.size ≤ gb237)); have n3_ := Aside0.mk ((by rw [hg]; exact (below_size (by repeat (first | (with_reducible first | exact HB.out | apply below_alloc | apply pw_below_drewN | apply below_drew1) | exact HB.out))) : w.heap.size ≤ gb237)); clear HB; have HB := n0_; have BK237 := n1_; have GW237 := n2_; have GE237 := n3_; clear n0_ n1_ n2_ n3_; clear hb hbox hg; have hcz5_0 : w4.cell? ⟨gb237, 0, none⟩ = some (.slice A0_0 l0_0.length c0_0) := (blk_cell BK237.out 0).trans rfl; have hfz5_0 := blk_frozen BK237.out 0) | (go_at_call 17; (with_reducible refine (turncockref1_CheckDesc.calls k _ _ l0_0 true _ ?side1 ?side2 A2.out).mono ?_); (case side1 => repeat (first | exact (Kd.C_below HR0_0.out HB.out) | (with_reducible refine Kd.C_alloc ?_ _) | (with_reducible refine Kd.C_drewN ?_ _) | (with_reducible refine Kd.C_drew ?_))); (case side2 => exact HC0_0.out); rintro e w6 ⟨rfl, hb⟩; have n0_ := Aside0.mk (blk_below (g := gb237) (o := .cells #[.slice A0_0 l0_0.length c0_0] 24 (0, 0)) (by (with_reducible repeat (first | refine blk_drewN ?_ _ | refine blk_drew ?_ | refine blk_alloc ?_ _)); exact BK237.out) hb); have n1_ := Aside0.mk (below_step (by repeat (first | (with_reducible first | exact HB.out | apply below_alloc | apply pw_below_drewN | apply below_drew1 | refine below_set ?_ GE237.out) | exact HB.out)) hb); clear BK237; clear HB; have BK237 := n0_; have HB := n1_; clear n0_ n1_; (try clear hb); (try clear hb2); (try clear hk); (try clear hi))))
    go_loopg [3, 4] k (fun kq v3 v4 w' => ∃ (x3_1 : ByteArray) (x4_1 : Int), v3 = .string x3_1 ∧ v4 = .int .i64 x4_1 ∧ Aside0 (turncockref1_DescText.l0 kq x3_1 x4_1 l0_0 = some r) ∧ Aside0 (kq ≤ k) ∧ Aside0 (w'.heap[gb237]? = some (.cells #[(.slice A0_0 l0_0.length c0_0)] 24 (0, 0))) ∧ Aside0 (Below w.heap.size w w'))
    case atStart => exact ⟨((⟨#[]⟩ : ByteArray)), (0), (by first | rfl | (simp; done) | (simp [*]; done)), (by first | rfl | (simp; done) | (simp [*]; done)), H', ⟨Nat.le_refl _⟩, ⟨by (with_reducible repeat (first | refine blk_drewN ?_ _ | refine blk_drew ?_ | refine blk_alloc ?_ _)); exact BK237.out⟩, ⟨by repeat (first | (with_reducible first | exact HB.out | apply below_alloc | apply pw_below_drewN | apply below_drew1 | refine below_set ?_ GE237.out) | exact HB.out)⟩⟩
    case round =>
      clear H'
      try clear c1
      try clear p2
      try clear c3
      try clear hcz5_0
      try clear hfz5_0
      obtain ⟨x3_1, x4_1, rfl, rfl, HA, HK1, BK237, HB⟩ := hrel
      cases gk with
      | zero => exact absurd HA.out (by simp [turncockref1_DescText.l0])
      | succ k1 =>
        have H := HA.out
        clear HA
        simp only [turncockref1_DescText.l0] at H
        by_cases c7 : x4_1 < (l0_0.length : Int)
        · rw [if_pos c7] at H
          have c7b0 : decide (x4_1 < (l0_0.length : Int)) = true := decide_eq_true c7
          clear c7
          by_cases c8 : x4_1 > 0
          · rw [if_pos c8] at H
            have c8b0 : decide (0 < x4_1) = true := decide_eq_true c8
            clear c8
            by_cases c9 : x3_1.size + 1 ≤ 9223372036854775807
            · rw [if_pos c9] at H
              have c9b0 := eq_true c9
              have c9b1 : decide (x3_1.size + 1 ≤ 9223372036854775807) = true := decide_eq_true c9
              try have c9b2 : (9223372036854775807 < x3_1.size + 1) = False := eq_false (Nat.not_lt.2 c9)
              by_cases c10 : 0 ≤ x4_1
              · rw [if_pos c10] at H
                have c10b0 : decide (0 ≤ x4_1) = true := decide_eq_true c10
                clear c10
                replace H := Option.bind_eq_some_iff.mp H
                obtain ⟨t240, A110, H⟩ := H
                replace H : (if x3_1.size + 1 + t240.size ≤ 9223372036854775807 then (if x3_1.size + 1 + t240.size + 1 ≤ 9223372036854775807 then ((turncockref1_Escape.f ((rd_T47 l0_0 x4_1).f1)).bind fun t242 => (if x3_1.size + 1 + t240.size + 1 + t242.size ≤ 9223372036854775807 then (turncockref1_DescText.l0 k1 ((((x3_1 ++ (⟨#[44]⟩ : ByteArray)) ++ t240) ++ (⟨#[61]⟩ : ByteArray)) ++ t242) (wrap64 (x4_1 + 1)) l0_0) else (none))) else (none)) else (none)) = some r := H
                have A11 := Aside0.mk A110
                clear A110
                by_cases c12 : x3_1.size + 1 + t240.size ≤ 9223372036854775807
                · rw [if_pos c12] at H
                  have c12b0 := eq_true c12
                  have c12b1 : decide (x3_1.size + 1 + t240.size ≤ 9223372036854775807) = true := decide_eq_true c12
                  try have c12b2 : (9223372036854775807 < x3_1.size + 1 + t240.size) = False := eq_false (Nat.not_lt.2 c12)
                  by_cases c13 : x3_1.size + 1 + t240.size + 1 ≤ 9223372036854775807
                  · rw [if_pos c13] at H
                    have c13b0 := eq_true c13
                    have c13b1 : decide (x3_1.size + 1 + t240.size + 1 ≤ 9223372036854775807) = true := decide_eq_true c13
                    try have c13b2 : (9223372036854775807 < x3_1.size + 1 + t240.size + 1) = False := eq_false (Nat.not_lt.2 c13)
                    replace H := Option.bind_eq_some_iff.mp H
                    obtain ⟨t242, A140, H⟩ := H
                    replace H : (if x3_1.size + 1 + t240.size + 1 + t242.size ≤ 9223372036854775807 then (turncockref1_DescText.l0 k1 ((((x3_1 ++ (⟨#[44]⟩ : ByteArray)) ++ t240) ++ (⟨#[61]⟩ : ByteArray)) ++ t242) (wrap64 (x4_1 + 1)) l0_0) else (none)) = some r := H
                    have A14 := Aside0.mk A140
                    clear A140
                    by_cases c15 : x3_1.size + 1 + t240.size + 1 + t242.size ≤ 9223372036854775807
                    · rw [if_pos c15] at H
                      have c15b0 := eq_true c15
                      have c15b1 : decide (x3_1.size + 1 + t240.size + 1 + t242.size ≤ 9223372036854775807) = true := decide_eq_true c15
                      try have c15b2 : (9223372036854775807 < x3_1.size + 1 + t240.size + 1 + t242.size) = False := eq_false (Nat.not_lt.2 c15)
                      have H' := Aside0.mk H
                      clear H
                      have hcz16_0 : wr.cell? ⟨gb237, 0, none⟩ = some (.slice A0_0 l0_0.length c0_0) := (blk_cell BK237.out 0).trans rfl
                      have hfz16_0 := blk_frozen BK237.out 0
                      have p239 : 0 ≤ (x4_1 : Int) := of_decide_eq_true (by first | (with_reducible assumption) | assumption)
                      have q239 : x4_1 < (l0_0.length : Int) := of_decide_eq_true (by first | (with_reducible assumption) | assumption)
                      obtain ⟨ad239, e239, hx239_0, hx239_1⟩ := at_T47 HR0_0.out x4_1 p239 q239
                      cases e239
                      replace hx239_0 := (HB.out.cell (World.block_lt_of_cell? w _ hx239_0)).trans hx239_0
                      replace hx239_1 := (HB.out.cell (World.block_lt_of_cell? w _ hx239_1)).trans hx239_1
                      replace p239 := eq_true p239
                      replace q239 := eq_true q239
                      go_wp2_with (first | (go_at_call 24; (with_reducible refine (turncockref1_Escape.calls ((rd_T47 l0_0 x4_1).f0) t240 _ A11.out).mono ?_); rintro e w' ⟨rfl, ⟨nd, rfl⟩⟩; (try first | exact ⟨rfl, _, World.drewN_drewN _ _ _⟩ | exact ⟨rfl, _, Eq.trans (World.drewN_drewN _ _ _) (congrArg (World.drewN _) (Nat.add_assoc _ _ _))⟩); have p241 : 0 ≤ (x4_1 : Int) := of_decide_eq_true (by first | (with_reducible assumption) | assumption); have q241 : x4_1 < (l0_0.length : Int) := of_decide_eq_true (by first | (with_reducible assumption) | assumption); obtain ⟨ad241, e241, hx241_0, hx241_1⟩ := at_T47 HR0_0.out x4_1 p241 q241; obtain rfl : ad239 = ad241 := (by injection e241); replace hx241_0 := (HB.out.cell (World.block_lt_of_cell? w _ hx241_0)).trans hx241_0; replace hx241_1 := (HB.out.cell (World.block_lt_of_cell? w _ hx241_1)).trans hx241_1; replace p241 := eq_true p241; replace q241 := eq_true q241) | (go_at_call 24; (with_reducible refine (turncockref1_Escape.calls ((rd_T47 l0_0 x4_1).f1) t242 _ A14.out).mono ?_); rintro e w' ⟨rfl, ⟨nd, rfl⟩⟩; (try first | exact ⟨rfl, _, World.drewN_drewN _ _ _⟩ | exact ⟨rfl, _, Eq.trans (World.drewN_drewN _ _ _) (congrArg (World.drewN _) (Nat.add_assoc _ _ _))⟩)))
                      repeat (go_quiet (first | (go_at_call 24; (with_reducible refine (turncockref1_Escape.calls ((rd_T47 l0_0 x4_1).f0) t240 _ A11.out).mono ?_); rintro e w' ⟨rfl, ⟨nd, rfl⟩⟩; (try first | exact ⟨rfl, _, World.drewN_drewN _ _ _⟩ | exact ⟨rfl, _, Eq.trans (World.drewN_drewN _ _ _) (congrArg (World.drewN _) (Nat.add_assoc _ _ _))⟩); have p241 : 0 ≤ (x4_1 : Int) := of_decide_eq_true (by first | (with_reducible assumption) | assumption); have q241 : x4_1 < (l0_0.length : Int) := of_decide_eq_true (by first | (with_reducible assumption) | assumption); obtain ⟨ad241, e241, hx241_0, hx241_1⟩ := at_T47 HR0_0.out x4_1 p241 q241; obtain rfl : ad239 = ad241 := (by injection e241); replace hx241_0 := (HB.out.cell (World.block_lt_of_cell? w _ hx241_0)).trans hx241_0; replace hx241_1 := (HB.out.cell (World.block_lt_of_cell? w _ hx241_1)).trans hx241_1; replace p241 := eq_true p241; replace q241 := eq_true q241) | (go_at_call 24; (with_reducible refine (turncockref1_Escape.calls ((rd_T47 l0_0 x4_1).f1) t242 _ A14.out).mono ?_); rintro e w' ⟨rfl, ⟨nd, rfl⟩⟩; (try first | exact ⟨rfl, _, World.drewN_drewN _ _ _⟩ | exact ⟨rfl, _, Eq.trans (World.drewN_drewN _ _ _) (congrArg (World.drewN _) (Nat.add_assoc _ _ _))⟩))); try go_wp2_with (first | (go_at_call 24; (with_reducible refine (turncockref1_Escape.calls ((rd_T47 l0_0 x4_1).f0) t240 _ A11.out).mono ?_); rintro e w' ⟨rfl, ⟨nd, rfl⟩⟩; (try first | exact ⟨rfl, _, World.drewN_drewN _ _ _⟩ | exact ⟨rfl, _, Eq.trans (World.drewN_drewN _ _ _) (congrArg (World.drewN _) (Nat.add_assoc _ _ _))⟩); have p241 : 0 ≤ (x4_1 : Int) := of_decide_eq_true (by first | (with_reducible assumption) | assumption); have q241 : x4_1 < (l0_0.length : Int) := of_decide_eq_true (by first | (with_reducible assumption) | assumption); obtain ⟨ad241, e241, hx241_0, hx241_1⟩ := at_T47 HR0_0.out x4_1 p241 q241; obtain rfl : ad239 = ad241 := (by injection e241); replace hx241_0 := (HB.out.cell (World.block_lt_of_cell? w _ hx241_0)).trans hx241_0; replace hx241_1 := (HB.out.cell (World.block_lt_of_cell? w _ hx241_1)).trans hx241_1; replace p241 := eq_true p241; replace q241 := eq_true q241) | (go_at_call 24; (with_reducible refine (turncockref1_Escape.calls ((rd_T47 l0_0 x4_1).f1) t242 _ A14.out).mono ?_); rintro e w' ⟨rfl, ⟨nd, rfl⟩⟩; (try first | exact ⟨rfl, _, World.drewN_drewN _ _ _⟩ | exact ⟨rfl, _, Eq.trans (World.drewN_drewN _ _ _) (congrArg (World.drewN _) (Nat.add_assoc _ _ _))⟩))))
                      go_roundg k1
                      case measure => have := HK1.out; omega
                      case rel => exact ⟨((((x3_1 ++ (⟨#[44]⟩ : ByteArray)) ++ t240) ++ (⟨#[61]⟩ : ByteArray)) ++ t242), (wrap64 (x4_1 + 1)), (by first | rfl | (simp; done) | (simp [*]; done)), (by first | rfl | (simp; done) | (simp [*]; done)), H', ⟨by have := HK1.out; omega⟩, ⟨by (with_reducible repeat (first | refine blk_drewN ?_ _ | refine blk_drew ?_ | refine blk_alloc ?_ _)); exact BK237.out⟩, ⟨by repeat (first | (with_reducible first | exact HB.out | apply below_alloc | apply pw_below_drewN | apply below_drew1 | refine below_set ?_ GE237.out) | exact HB.out)⟩⟩
                    · rw [if_neg c15] at H
                      exact absurd H (by simp)
                  · rw [if_neg c13] at H
                    exact absurd H (by simp)
                · rw [if_neg c12] at H
                  exact absurd H (by simp)
              · rw [if_neg c10] at H
                exact absurd H (by simp)
            · rw [if_neg c9] at H
              exact absurd H (by simp)
          · rw [if_neg c8] at H
            have c8b0 : decide (0 < x4_1) = false := decide_eq_false c8
            clear c8
            by_cases c17 : 0 ≤ x4_1
            · rw [if_pos c17] at H
              have c17b0 : decide (0 ≤ x4_1) = true := decide_eq_true c17
              clear c17
              replace H := Option.bind_eq_some_iff.mp H
              obtain ⟨t244, A180, H⟩ := H
              replace H : (if x3_1.size + t244.size ≤ 9223372036854775807 then (if x3_1.size + t244.size + 1 ≤ 9223372036854775807 then ((turncockref1_Escape.f ((rd_T47 l0_0 x4_1).f1)).bind fun t246 => (if x3_1.size + t244.size + 1 + t246.size ≤ 9223372036854775807 then (turncockref1_DescText.l0 k1 (((x3_1 ++ t244) ++ (⟨#[61]⟩ : ByteArray)) ++ t246) (wrap64 (x4_1 + 1)) l0_0) else (none))) else (none)) else (none)) = some r := H
              have A18 := Aside0.mk A180
              clear A180
              by_cases c19 : x3_1.size + t244.size ≤ 9223372036854775807
              · rw [if_pos c19] at H
                have c19b0 := eq_true c19
                have c19b1 : decide (x3_1.size + t244.size ≤ 9223372036854775807) = true := decide_eq_true c19
                try have c19b2 : (9223372036854775807 < x3_1.size + t244.size) = False := eq_false (Nat.not_lt.2 c19)
                by_cases c20 : x3_1.size + t244.size + 1 ≤ 9223372036854775807
                · rw [if_pos c20] at H
                  have c20b0 := eq_true c20
                  have c20b1 : decide (x3_1.size + t244.size + 1 ≤ 9223372036854775807) = true := decide_eq_true c20
                  try have c20b2 : (9223372036854775807 < x3_1.size + t244.size + 1) = False := eq_false (Nat.not_lt.2 c20)
                  replace H := Option.bind_eq_some_iff.mp H
                  obtain ⟨t246, A210, H⟩ := H
                  replace H : (if x3_1.size + t244.size + 1 + t246.size ≤ 9223372036854775807 then (turncockref1_DescText.l0 k1 (((x3_1 ++ t244) ++ (⟨#[61]⟩ : ByteArray)) ++ t246) (wrap64 (x4_1 + 1)) l0_0) else (none)) = some r := H
                  have A21 := Aside0.mk A210
                  clear A210
                  by_cases c22 : x3_1.size + t244.size + 1 + t246.size ≤ 9223372036854775807
                  · rw [if_pos c22] at H
                    have c22b0 := eq_true c22
                    have c22b1 : decide (x3_1.size + t244.size + 1 + t246.size ≤ 9223372036854775807) = true := decide_eq_true c22
                    try have c22b2 : (9223372036854775807 < x3_1.size + t244.size + 1 + t246.size) = False := eq_false (Nat.not_lt.2 c22)
                    have H' := Aside0.mk H
                    clear H
                    have hcz23_0 : wr.cell? ⟨gb237, 0, none⟩ = some (.slice A0_0 l0_0.length c0_0) := (blk_cell BK237.out 0).trans rfl
                    have hfz23_0 := blk_frozen BK237.out 0
                    have p243 : 0 ≤ (x4_1 : Int) := of_decide_eq_true (by first | (with_reducible assumption) | assumption)
                    have q243 : x4_1 < (l0_0.length : Int) := of_decide_eq_true (by first | (with_reducible assumption) | assumption)
                    obtain ⟨ad243, e243, hx243_0, hx243_1⟩ := at_T47 HR0_0.out x4_1 p243 q243
                    cases e243
                    replace hx243_0 := (HB.out.cell (World.block_lt_of_cell? w _ hx243_0)).trans hx243_0
                    replace hx243_1 := (HB.out.cell (World.block_lt_of_cell? w _ hx243_1)).trans hx243_1
                    replace p243 := eq_true p243
                    replace q243 := eq_true q243
                    go_wp2_with (first | (go_at_call 24; (with_reducible refine (turncockref1_Escape.calls ((rd_T47 l0_0 x4_1).f0) t244 _ A18.out).mono ?_); rintro e w' ⟨rfl, ⟨nd, rfl⟩⟩; (try first | exact ⟨rfl, _, World.drewN_drewN _ _ _⟩ | exact ⟨rfl, _, Eq.trans (World.drewN_drewN _ _ _) (congrArg (World.drewN _) (Nat.add_assoc _ _ _))⟩); have p245 : 0 ≤ (x4_1 : Int) := of_decide_eq_true (by first | (with_reducible assumption) | assumption); have q245 : x4_1 < (l0_0.length : Int) := of_decide_eq_true (by first | (with_reducible assumption) | assumption); obtain ⟨ad245, e245, hx245_0, hx245_1⟩ := at_T47 HR0_0.out x4_1 p245 q245; obtain rfl : ad243 = ad245 := (by injection e245); replace hx245_0 := (HB.out.cell (World.block_lt_of_cell? w _ hx245_0)).trans hx245_0; replace hx245_1 := (HB.out.cell (World.block_lt_of_cell? w _ hx245_1)).trans hx245_1; replace p245 := eq_true p245; replace q245 := eq_true q245) | (go_at_call 24; (with_reducible refine (turncockref1_Escape.calls ((rd_T47 l0_0 x4_1).f1) t246 _ A21.out).mono ?_); rintro e w' ⟨rfl, ⟨nd, rfl⟩⟩; (try first | exact ⟨rfl, _, World.drewN_drewN _ _ _⟩ | exact ⟨rfl, _, Eq.trans (World.drewN_drewN _ _ _) (congrArg (World.drewN _) (Nat.add_assoc _ _ _))⟩)))
                    repeat (go_quiet (first | (go_at_call 24; (with_reducible refine (turncockref1_Escape.calls ((rd_T47 l0_0 x4_1).f0) t244 _ A18.out).mono ?_); rintro e w' ⟨rfl, ⟨nd, rfl⟩⟩; (try first | exact ⟨rfl, _, World.drewN_drewN _ _ _⟩ | exact ⟨rfl, _, Eq.trans (World.drewN_drewN _ _ _) (congrArg (World.drewN _) (Nat.add_assoc _ _ _))⟩); have p245 : 0 ≤ (x4_1 : Int) := of_decide_eq_true (by first | (with_reducible assumption) | assumption); have q245 : x4_1 < (l0_0.length : Int) := of_decide_eq_true (by first | (with_reducible assumption) | assumption); obtain ⟨ad245, e245, hx245_0, hx245_1⟩ := at_T47 HR0_0.out x4_1 p245 q245; obtain rfl : ad243 = ad245 := (by injection e245); replace hx245_0 := (HB.out.cell (World.block_lt_of_cell? w _ hx245_0)).trans hx245_0; replace hx245_1 := (HB.out.cell (World.block_lt_of_cell? w _ hx245_1)).trans hx245_1; replace p245 := eq_true p245; replace q245 := eq_true q245) | (go_at_call 24; (with_reducible refine (turncockref1_Escape.calls ((rd_T47 l0_0 x4_1).f1) t246 _ A21.out).mono ?_); rintro e w' ⟨rfl, ⟨nd, rfl⟩⟩; (try first | exact ⟨rfl, _, World.drewN_drewN _ _ _⟩ | exact ⟨rfl, _, Eq.trans (World.drewN_drewN _ _ _) (congrArg (World.drewN _) (Nat.add_assoc _ _ _))⟩))); try go_wp2_with (first | (go_at_call 24; (with_reducible refine (turncockref1_Escape.calls ((rd_T47 l0_0 x4_1).f0) t244 _ A18.out).mono ?_); rintro e w' ⟨rfl, ⟨nd, rfl⟩⟩; (try first | exact ⟨rfl, _, World.drewN_drewN _ _ _⟩ | exact ⟨rfl, _, Eq.trans (World.drewN_drewN _ _ _) (congrArg (World.drewN _) (Nat.add_assoc _ _ _))⟩); have p245 : 0 ≤ (x4_1 : Int) := of_decide_eq_true (by first | (with_reducible assumption) | assumption); have q245 : x4_1 < (l0_0.length : Int) := of_decide_eq_true (by first | (with_reducible assumption) | assumption); obtain ⟨ad245, e245, hx245_0, hx245_1⟩ := at_T47 HR0_0.out x4_1 p245 q245; obtain rfl : ad243 = ad245 := (by injection e245); replace hx245_0 := (HB.out.cell (World.block_lt_of_cell? w _ hx245_0)).trans hx245_0; replace hx245_1 := (HB.out.cell (World.block_lt_of_cell? w _ hx245_1)).trans hx245_1; replace p245 := eq_true p245; replace q245 := eq_true q245) | (go_at_call 24; (with_reducible refine (turncockref1_Escape.calls ((rd_T47 l0_0 x4_1).f1) t246 _ A21.out).mono ?_); rintro e w' ⟨rfl, ⟨nd, rfl⟩⟩; (try first | exact ⟨rfl, _, World.drewN_drewN _ _ _⟩ | exact ⟨rfl, _, Eq.trans (World.drewN_drewN _ _ _) (congrArg (World.drewN _) (Nat.add_assoc _ _ _))⟩))))
                    go_roundg k1
                    case measure => have := HK1.out; omega
                    case rel => exact ⟨(((x3_1 ++ t244) ++ (⟨#[61]⟩ : ByteArray)) ++ t246), (wrap64 (x4_1 + 1)), (by first | rfl | (simp; done) | (simp [*]; done)), (by first | rfl | (simp; done) | (simp [*]; done)), H', ⟨by have := HK1.out; omega⟩, ⟨by (with_reducible repeat (first | refine blk_drewN ?_ _ | refine blk_drew ?_ | refine blk_alloc ?_ _)); exact BK237.out⟩, ⟨by repeat (first | (with_reducible first | exact HB.out | apply below_alloc | apply pw_below_drewN | apply below_drew1 | refine below_set ?_ GE237.out) | exact HB.out)⟩⟩
                  · rw [if_neg c22] at H
                    exact absurd H (by simp)
                · rw [if_neg c20] at H
                  exact absurd H (by simp)
              · rw [if_neg c19] at H
                exact absurd H (by simp)
            · rw [if_neg c17] at H
              exact absurd H (by simp)
        · rw [if_neg c7] at H
          have c7b0 : decide (x4_1 < (l0_0.length : Int)) = false := decide_eq_false c7
          clear c7
          obtain rfl := Option.some.inj H
          have hcz24_0 : wr.cell? ⟨gb237, 0, none⟩ = some (.slice A0_0 l0_0.length c0_0) := (blk_cell BK237.out 0).trans rfl
          have hfz24_0 := blk_frozen BK237.out 0
          go_wp2
          repeat (go_quiet (fail); try go_wp2)
          go_ret
          exact ⟨by first | rfl | (simp [errW_none, errW_some] <;> rfl) | (simp [*, errW_none, errW_some] <;> rfl), by repeat (first | (with_reducible first | exact HB.out | apply below_alloc | apply pw_below_drewN | apply below_drew1 | refine below_set ?_ GE237.out) | exact HB.out)⟩
  · replace c3 := Bool.eq_false_iff.mpr c3
    subst c3
    have H1 : (some (⟨#[]⟩ : ByteArray)) = some r := by rw [if_neg (show ¬ (false = true) by decide)] at H; exact H
    clear H
    have H := H1
    clear H1
    obtain rfl := Option.some.inj H
    go_enter Tryd.func18, Tryd.ntmps18
    go_wp2_with (first | ((with_reducible refine gate_dst (N := 1) rfl ?_); refine box_event ?hg (N := 1) ?hd (cs := #[.slice A0_0 l0_0.length c0_0]) (t := 24) ?hr ?_; (case hd => rfl); (case hg => rfl); (case hr => first | (go_simp; done) | (go_simp; rfl)); intro gb237 hg w25 hbox hb; have n0_ := Aside0.mk (below_step (by repeat (first | (with_reducible first | exact HB.out | apply below_alloc | apply pw_below_drewN | apply below_drew1) | exact HB.out)) hb); have n1_ := Aside0.mk (hbox); have n2_ := Aside0.mk ((by rw [hg]; exact (below_size (by repeat (first | (with_reducible first | exact HB.out | apply below_alloc | apply pw_below_drewN | apply below_drew1) | exact HB.out))) : w.heap.size ≤ gb237)); have n3_ := Aside0.mk ((by rw [hg]; exact (below_size (by repeat (first | (with_reducible first | exact HB.out | apply below_alloc | apply pw_below_drewN | apply below_drew1) | exact HB.out))) : w.heap.size ≤ gb237)); clear HB; have HB := n0_; have BK237 := n1_; have GW237 := n2_; have GE237 := n3_; clear n0_ n1_ n2_ n3_; clear hb hbox hg; have hcz26_0 : w25.cell? ⟨gb237, 0, none⟩ = some (.slice A0_0 l0_0.length c0_0) := (blk_cell BK237.out 0).trans rfl; have hfz26_0 := blk_frozen BK237.out 0) | (go_at_call 17; (with_reducible refine (turncockref1_CheckDesc.calls k _ _ l0_0 false _ ?side1 ?side2 A2.out).mono ?_); (case side1 => repeat (first | exact (Kd.C_below HR0_0.out HB.out) | (with_reducible refine Kd.C_alloc ?_ _) | (with_reducible refine Kd.C_drewN ?_ _) | (with_reducible refine Kd.C_drew ?_))); (case side2 => exact HC0_0.out); rintro e w27 ⟨rfl, hb⟩; have n0_ := Aside0.mk (blk_below (g := gb237) (o := .cells #[.slice A0_0 l0_0.length c0_0] 24 (0, 0)) (by (with_reducible repeat (first | refine blk_drewN ?_ _ | refine blk_drew ?_ | refine blk_alloc ?_ _)); exact BK237.out) hb); have n1_ := Aside0.mk (below_step (by repeat (first | (with_reducible first | exact HB.out | apply below_alloc | apply pw_below_drewN | apply below_drew1 | refine below_set ?_ GE237.out) | exact HB.out)) hb); clear BK237; clear HB; have BK237 := n0_; have HB := n1_; clear n0_ n1_; (try clear hb); (try clear hb2); (try clear hk); (try clear hi)))
    repeat (go_quiet (first | ((with_reducible refine gate_dst (N := 1) rfl ?_); refine box_event ?hg (N := 1) ?hd (cs := #[.slice A0_0 l0_0.length c0_0]) (t := 24) ?hr ?_; (case hd => rfl); (case hg => rfl); (case hr => first | (go_simp; done) | (go_simp; rfl)); intro gb237 hg w25 hbox hb; have n0_ := Aside0.mk (below_step (by repeat (first | (with_reducible first | exact HB.out | apply below_alloc | apply pw_below_drewN | apply below_drew1) | exact HB.out)) hb); have n1_ := Aside0.mk (hbox); have n2_ := Aside0.mk ((by rw [hg]; exact (below_size (by repeat (first | (with_reducible first | exact HB.out | apply below_alloc | apply pw_below_drewN | apply below_drew1) | exact HB.out))) : w.heap.size ≤ gb237)); have n3_ := Aside0.mk ((by rw [hg]; exact (below_size (by repeat (first | (with_reducible first | exact HB.out | apply below_alloc | apply pw_below_drewN | apply below_drew1) | exact HB.out))) : w.heap.size ≤ gb237)); clear HB; have HB := n0_; have BK237 := n1_; have GW237 := n2_; have GE237 := n3_; clear n0_ n1_ n2_ n3_; clear hb hbox hg; have hcz26_0 : w25.cell? ⟨gb237, 0, none⟩ = some (.slice A0_0 l0_0.length c0_0) := (blk_cell BK237.out 0).trans rfl; have hfz26_0 := blk_frozen BK237.out 0) | (go_at_call 17; (with_reducible refine (turncockref1_CheckDesc.calls k _ _ l0_0 false _ ?side1 ?side2 A2.out).mono ?_); (case side1 => repeat (first | exact (Kd.C_below HR0_0.out HB.out) | (with_reducible refine Kd.C_alloc ?_ _) | (with_reducible refine Kd.C_drewN ?_ _) | (with_reducible refine Kd.C_drew ?_))); (case side2 => exact HC0_0.out); rintro e w27 ⟨rfl, hb⟩; have n0_ := Aside0.mk (blk_below (g := gb237) (o := .cells #[.slice A0_0 l0_0.length c0_0] 24 (0, 0)) (by (with_reducible repeat (first | refine blk_drewN ?_ _ | refine blk_drew ?_ | refine blk_alloc ?_ _)); exact BK237.out) hb); have n1_ := Aside0.mk (below_step (by repeat (first | (with_reducible first | exact HB.out | apply below_alloc | apply pw_below_drewN | apply below_drew1 | refine below_set ?_ GE237.out) | exact HB.out)) hb); clear BK237; clear HB; have BK237 := n0_; have HB := n1_; clear n0_ n1_; (try clear hb); (try clear hb2); (try clear hk); (try clear hi))); try go_wp2_with (first | ((with_reducible refine gate_dst (N := 1) rfl ?_); refine box_event ?hg (N := 1) ?hd (cs := #[.slice A0_0 l0_0.length c0_0]) (t := 24) ?hr ?_; (case hd => rfl); (case hg => rfl); (case hr => first | (go_simp; done) | (go_simp; rfl)); intro gb237 hg w25 hbox hb; have n0_ := Aside0.mk (below_step (by repeat (first | (with_reducible first | exact HB.out | apply below_alloc | apply pw_below_drewN | apply below_drew1) | exact HB.out)) hb); have n1_ := Aside0.mk (hbox); have n2_ := Aside0.mk ((by rw [hg]; exact (below_size (by repeat (first | (with_reducible first | exact HB.out | apply below_alloc | apply pw_below_drewN | apply below_drew1) | exact HB.out))) : w.heap.size ≤ gb237)); have n3_ := Aside0.mk ((by rw [hg]; exact (below_size (by repeat (first | (with_reducible first | exact HB.out | apply below_alloc | apply pw_below_drewN | apply below_drew1) | exact HB.out))) : w.heap.size ≤ gb237)); clear HB; have HB := n0_; have BK237 := n1_; have GW237 := n2_; have GE237 := n3_; clear n0_ n1_ n2_ n3_; clear hb hbox hg; have hcz26_0 : w25.cell? ⟨gb237, 0, none⟩ = some (.slice A0_0 l0_0.length c0_0) := (blk_cell BK237.out 0).trans rfl; have hfz26_0 := blk_frozen BK237.out 0) | (go_at_call 17; (with_reducible refine (turncockref1_CheckDesc.calls k _ _ l0_0 false _ ?side1 ?side2 A2.out).mono ?_); (case side1 => repeat (first | exact (Kd.C_below HR0_0.out HB.out) | (with_reducible refine Kd.C_alloc ?_ _) | (with_reducible refine Kd.C_drewN ?_ _) | (with_reducible refine Kd.C_drew ?_))); (case side2 => exact HC0_0.out); rintro e w27 ⟨rfl, hb⟩; have n0_ := Aside0.mk (blk_below (g := gb237) (o := .cells #[.slice A0_0 l0_0.length c0_0] 24 (0, 0)) (by (with_reducible repeat (first | refine blk_drewN ?_ _ | refine blk_drew ?_ | refine blk_alloc ?_ _)); exact BK237.out) hb); have n1_ := Aside0.mk (below_step (by repeat (first | (with_reducible first | exact HB.out | apply below_alloc | apply pw_below_drewN | apply below_drew1 | refine below_set ?_ GE237.out) | exact HB.out)) hb); clear BK237; clear HB; have BK237 := n0_; have HB := n1_; clear n0_ n1_; (try clear hb); (try clear hb2); (try clear hk); (try clear hi))))
    go_ret
    exact ⟨by first | rfl | (simp [errW_none, errW_some] <;> rfl) | (simp [*, errW_none, errW_some] <;> rfl), by repeat (first | (with_reducible first | exact HB.out | apply below_alloc | apply pw_below_drewN | apply below_drew1 | refine below_set ?_ GE237.out) | exact HB.out)⟩

/-! ### turncockref1_cut: function 40 -/
def turncockref1_cut.l0 : Nat → ByteArray → Int → Int → Option (ByteArray × ByteArray × Bool)
  | 0, _, _, _ => none
  | k + 1, x0, x1, x7 => if x7 < (x0.size : Int) then (if 0 ≤ x7 then (if (bt x0 x7) = x1 then (if x7 ≤ (x0.size : Int) then (if 0 ≤ (wrap64 (x7 + 1)) then (if (wrap64 (x7 + 1)) ≤ (x0.size : Int) then (some (x0.extract 0 (x7 : Int).toNat, x0.extract ((wrap64 (x7 + 1)) : Int).toNat x0.size, true)) else (none)) else (none)) else (none)) else (turncockref1_cut.l0 k x0 x1 (wrap64 (x7 + 1)))) else (none)) else (some (x0, (⟨#[]⟩ : ByteArray), false))
def turncockref1_cut.f (k : Nat) (a0 : ByteArray) (a1 : Int) : Option (ByteArray × ByteArray × Bool) := turncockref1_cut.l0 k a0 a1 0
theorem turncockref1_cut.mono_l : ∀ k, (∀ y0 y1 y2, LeO (turncockref1_cut.l0 k y0 y1 y2) (turncockref1_cut.l0 (k + 1) y0 y1 y2))
  | 0 => fun _ _ _ r h => by simp [turncockref1_cut.l0] at h
  | k + 1 => by
    have ih0 := turncockref1_cut.mono_l k
    · intro y0 y1 y2
      unfold turncockref1_cut.l0
      repeat' first
      | (with_reducible exact ih0 _ _ _)
      | (with_reducible exact LeO.refl _)
      | (with_reducible exact LeO.none _)
      | (with_reducible refine LeO.ite ?_ ?_)
      | (with_reducible refine LeO.bind ?_ (fun _ => ?_))
      | exact ih0 _ _ _
      | exact LeO.none _
      | refine LeO.ite ?_ ?_
      | refine LeO.bind ?_ (fun _ => ?_)
theorem turncockref1_cut.mono : ∀ a0 a1 k, LeO (turncockref1_cut.f k a0 a1) (turncockref1_cut.f (k + 1) a0 a1) := by
  intro a0 a1 k
  have ih0 := turncockref1_cut.mono_l k
  unfold turncockref1_cut.f
  repeat' first
      | (with_reducible exact ih0 _ _ _)
      | (with_reducible exact LeO.refl _)
      | (with_reducible exact LeO.none _)
      | (with_reducible refine LeO.ite ?_ ?_)
      | (with_reducible refine LeO.bind ?_ (fun _ => ?_))
      | exact ih0 _ _ _
      | exact LeO.none _
      | refine LeO.ite ?_ ?_
      | refine LeO.bind ?_ (fun _ => ?_)
set_option maxHeartbeats 8000000 in
set_option maxRecDepth 100000 in
theorem turncockref1_cut.calls (k : Nat) (a0 : ByteArray) (a1 : Int) (r1 : ByteArray) (r2 : ByteArray) (r3 : Bool) (w : World) (h : turncockref1_cut.f k a0 a1 = some (r1, r2, r3)) :
    Calls Tryd.prog 40 #[.string a0, .int .u8 a1] w fun e w' => e = .returned (.tuple #[.string r1, .string r2, .bool r3]) ∧ Drawn0 w w' := by
  have H : (turncockref1_cut.l0 k a0 a1 0) = some (r1, r2, r3) := h
  clear h
  have H' := Aside0.mk H
  clear H
  go_enter Tryd.func40, Tryd.ntmps40
  go_wp2
  repeat (go_quiet (fail); try go_wp2)
  go_loopg [7] k (fun kq v7 w' => ∃ (x7_1 : Int), v7 = .int .i64 x7_1 ∧ Aside0 (turncockref1_cut.l0 kq a0 a1 x7_1 = some (r1, r2, r3)) ∧ Aside0 (kq ≤ k) ∧ Drawn0 w w')
  case atStart => exact ⟨(0), (by first | rfl | (simp; done) | (simp [*]; done)), H', ⟨Nat.le_refl _⟩, by repeat (first | exact Drawn0.refl _ | apply Drawn0.step)⟩
  case round =>
    clear H'
    try clear p2
    obtain ⟨x7_1, rfl, HA, HK1, ⟨m1, rfl⟩⟩ := hrel
    cases gk with
    | zero => exact absurd HA.out (by simp [turncockref1_cut.l0])
    | succ k1 =>
      have H := HA.out
      clear HA
      simp only [turncockref1_cut.l0] at H
      by_cases c3 : x7_1 < (a0.size : Int)
      · rw [if_pos c3] at H
        have c3b0 : decide (x7_1 < (a0.size : Int)) = true := decide_eq_true c3
        clear c3
        by_cases c4 : 0 ≤ x7_1
        · rw [if_pos c4] at H
          have c4b0 : decide (0 ≤ x7_1) = true := decide_eq_true c4
          clear c4
          by_cases c6 : (bt a0 x7_1) = a1
          · rw [if_pos c6] at H
            have c6b0 : ((bt a0 x7_1) == a1) = true := beq_iff_eq.mpr c6
            have c6b1 : ((bt a0 x7_1) != a1) = false := bne_eq_false_iff_eq.mpr c6
            clear c6
            have c7b0 := eq_true (of_decide_eq_true (by first | (with_reducible assumption) | assumption) : 0 ≤ x7_1)
            by_cases c8 : x7_1 ≤ (a0.size : Int)
            · rw [if_pos c8] at H
              have c8b0 := eq_true c8
              have c8b1 : decide (x7_1 ≤ (a0.size : Int)) = true := decide_eq_true c8
              clear c8
              obtain ⟨ji9, hji9⟩ : ∃ j_ : Int, (wrap64 (x7_1 + 1)) = j_ := ⟨_, rfl⟩
              replace H : (if 0 ≤ (ji9) then (if (ji9) ≤ (a0.size : Int) then (some (a0.extract 0 (x7_1 : Int).toNat, a0.extract ((ji9) : Int).toNat a0.size, true)) else (none)) else (none)) = some (r1, r2, r3) := by first | (rw [hji9] at H; exact H) | (simp only [hji9] at H ⊢; exact H)
              have hji9w : (IntKind.i64.wrap (x7_1 + 1)) = ji9 := (i64_w _).trans hji9
              by_cases c10 : 0 ≤ (ji9)
              · rw [if_pos c10] at H
                have c10b0 := eq_true c10
                have c10b1 : decide (0 ≤ (ji9)) = true := decide_eq_true c10
                clear c10
                by_cases c11 : (ji9) ≤ (a0.size : Int)
                · rw [if_pos c11] at H
                  have c11b0 := eq_true c11
                  have c11b1 : decide ((ji9) ≤ (a0.size : Int)) = true := decide_eq_true c11
                  clear c11
                  simp only [Option.some.injEq, Prod.mk.injEq] at H
                  obtain ⟨rfl, rfl, rfl⟩ := H
                  have p5 : 0 ≤ (x7_1 : Int) := of_decide_eq_true (by first | (with_reducible assumption) | assumption)
                  have q5 : x7_1 < (a0.size : Int) := of_decide_eq_true (by first | (with_reducible assumption) | assumption)
                  have hx5 := bt_at a0 x7_1
                  replace p5 := eq_true p5
                  replace q5 := eq_true q5
                  go_wp2
                  repeat (go_quiet (fail); try go_wp2)
                  go_ret3
                  exact ⟨by first | rfl | (simp; done) | (simp only [← hji9] <;> (first | rfl | simp)) | (simp [*]; done), by repeat (first | exact Drawn0.refl _ | apply Drawn0.step)⟩
                · rw [if_neg c11] at H
                  exact absurd H (by simp)
              · rw [if_neg c10] at H
                exact absurd H (by simp)
            · rw [if_neg c8] at H
              exact absurd H (by simp)
          · rw [if_neg c6] at H
            have c6b0 : ((bt a0 x7_1) == a1) = false := beq_eq_false_iff_ne.mpr c6
            have c6b1 : ((bt a0 x7_1) != a1) = true := bne_iff_ne.mpr c6
            have H' := Aside0.mk H
            clear H
            have p5 : 0 ≤ (x7_1 : Int) := of_decide_eq_true (by first | (with_reducible assumption) | assumption)
            have q5 : x7_1 < (a0.size : Int) := of_decide_eq_true (by first | (with_reducible assumption) | assumption)
            have hx5 := bt_at a0 x7_1
            replace p5 := eq_true p5
            replace q5 := eq_true q5
            go_wp2
            repeat (go_quiet (fail); try go_wp2)
            go_roundg k1
            case measure => have := HK1.out; omega
            case rel => exact ⟨(wrap64 (x7_1 + 1)), (by first | rfl | (simp; done) | (simp [*]; done)), H', ⟨by have := HK1.out; omega⟩, by repeat (first | exact Drawn0.refl _ | apply Drawn0.step)⟩
        · rw [if_neg c4] at H
          exact absurd H (by simp)
      · rw [if_neg c3] at H
        have c3b0 : decide (x7_1 < (a0.size : Int)) = false := decide_eq_false c3
        clear c3
        simp only [Option.some.injEq, Prod.mk.injEq] at H
        obtain ⟨rfl, rfl, rfl⟩ := H
        go_wp2
        repeat (go_quiet (fail); try go_wp2)
        go_ret3
        exact ⟨by first | rfl | (simp; done) | (simp [*]; done), by repeat (first | exact Drawn0.refl _ | apply Drawn0.step)⟩

/-! ### turncockref1_hex: function 68 -/
def turncockref1_hex.f (a0 : Int) : Option (Int) := (turncockref1_digit.f a0).bind fun t247 => (if t247 = true then (some ((a0 - 48) % 256)) else (if a0 ≥ 65 then (if a0 ≤ 70 then (some (((a0 - 65) % 256) + 10)) else (some (-1))) else (some (-1))))
set_option maxHeartbeats 8000000 in
set_option maxRecDepth 100000 in
theorem turncockref1_hex.calls (a0 : Int) (r : Int) (w : World) (h : turncockref1_hex.f a0 = some r) :
    Calls Tryd.prog 68 #[.int .u8 a0] w fun e w' => e = .returned (.int .i64 r) ∧ Drawn0 w w' := by
  have H : ((turncockref1_digit.f a0).bind fun t247 => (if t247 = true then (some ((a0 - 48) % 256)) else (if a0 ≥ 65 then (if a0 ≤ 70 then (some (((a0 - 65) % 256) + 10)) else (some (-1))) else (some (-1))))) = some r := h
  clear h
  replace H := Option.bind_eq_some_iff.mp H
  obtain ⟨t247, A20, H⟩ := H
  replace H : (if t247 = true then (some ((a0 - 48) % 256)) else (if a0 ≥ 65 then (if a0 ≤ 70 then (some (((a0 - 65) % 256) + 10)) else (some (-1))) else (some (-1)))) = some r := H
  have A2 := Aside0.mk A20
  clear A20
  by_cases c3 : t247 = true
  · subst c3
    have H1 : (some ((a0 - 48) % 256)) = some r := by rw [if_pos rfl] at H; exact H
    clear H
    have H := H1
    clear H1
    obtain rfl := Option.some.inj H
    go_enter Tryd.func68, Tryd.ntmps68
    go_wp2_with (first | ((with_reducible refine gate_callee (f := 48) rfl ?_); refine goesL_ (some 4) rfl rfl Tryd.func48 (by kernel_rfl) rfl #[.int .u8 a0] rfl (by (try simp only [List.map_toArray, List.map_cons, List.map_nil]); first | done | rfl | (simp only [List.length_drop, List.length_take]; rfl)) ?_; (with_reducible refine (turncockref1_digit.calls a0 true _ A2.out).mono ?_); rintro e w' ⟨rfl, ⟨nd, rfl⟩⟩; refine ⟨_, rfl, ?_⟩))
    go_ret
    exact ⟨by first | rfl | (simp; done) | (simp [*]; done), by repeat (first | exact Drawn0.refl _ | apply Drawn0.step)⟩
  · replace c3 := Bool.eq_false_iff.mpr c3
    subst c3
    have H1 : (if a0 ≥ 65 then (if a0 ≤ 70 then (some (((a0 - 65) % 256) + 10)) else (some (-1))) else (some (-1))) = some r := by rw [if_neg (show ¬ (false = true) by decide)] at H; exact H
    clear H
    have H := H1
    clear H1
    by_cases c4 : a0 ≥ 65
    · rw [if_pos c4] at H
      have c4b0 : decide (65 ≤ a0) = true := decide_eq_true c4
      clear c4
      by_cases c5 : a0 ≤ 70
      · rw [if_pos c5] at H
        have c5b0 : decide (a0 ≤ 70) = true := decide_eq_true c5
        clear c5
        obtain rfl := Option.some.inj H
        go_enter Tryd.func68, Tryd.ntmps68
        go_wp2_with (first | ((with_reducible refine gate_callee (f := 48) rfl ?_); refine goesL_ (some 4) rfl rfl Tryd.func48 (by kernel_rfl) rfl #[.int .u8 a0] rfl (by (try simp only [List.map_toArray, List.map_cons, List.map_nil]); first | done | rfl | (simp only [List.length_drop, List.length_take]; rfl)) ?_; (with_reducible refine (turncockref1_digit.calls a0 false _ A2.out).mono ?_); rintro e w' ⟨rfl, ⟨nd, rfl⟩⟩; refine ⟨_, rfl, ?_⟩))
        go_ret
        exact ⟨by first | rfl | (simp; done) | (simp [*]; done), by repeat (first | exact Drawn0.refl _ | apply Drawn0.step)⟩
      · rw [if_neg c5] at H
        have c5b0 : decide (a0 ≤ 70) = false := decide_eq_false c5
        clear c5
        obtain rfl := Option.some.inj H
        go_enter Tryd.func68, Tryd.ntmps68
        go_wp2_with (first | ((with_reducible refine gate_callee (f := 48) rfl ?_); refine goesL_ (some 4) rfl rfl Tryd.func48 (by kernel_rfl) rfl #[.int .u8 a0] rfl (by (try simp only [List.map_toArray, List.map_cons, List.map_nil]); first | done | rfl | (simp only [List.length_drop, List.length_take]; rfl)) ?_; (with_reducible refine (turncockref1_digit.calls a0 false _ A2.out).mono ?_); rintro e w' ⟨rfl, ⟨nd, rfl⟩⟩; refine ⟨_, rfl, ?_⟩))
        go_ret
        exact ⟨by first | rfl | (simp; done) | (simp [*]; done), by repeat (first | exact Drawn0.refl _ | apply Drawn0.step)⟩
    · rw [if_neg c4] at H
      have c4b0 : decide (65 ≤ a0) = false := decide_eq_false c4
      clear c4
      obtain rfl := Option.some.inj H
      go_enter Tryd.func68, Tryd.ntmps68
      go_wp2_with (first | ((with_reducible refine gate_callee (f := 48) rfl ?_); refine goesL_ (some 4) rfl rfl Tryd.func48 (by kernel_rfl) rfl #[.int .u8 a0] rfl (by (try simp only [List.map_toArray, List.map_cons, List.map_nil]); first | done | rfl | (simp only [List.length_drop, List.length_take]; rfl)) ?_; (with_reducible refine (turncockref1_digit.calls a0 false _ A2.out).mono ?_); rintro e w' ⟨rfl, ⟨nd, rfl⟩⟩; refine ⟨_, rfl, ?_⟩))
      go_ret
      exact ⟨by first | rfl | (simp; done) | (simp [*]; done), by repeat (first | exact Drawn0.refl _ | apply Drawn0.step)⟩

end Go.Proofs.YtpemmaffbcbcjaaDoor.PKeyParses
