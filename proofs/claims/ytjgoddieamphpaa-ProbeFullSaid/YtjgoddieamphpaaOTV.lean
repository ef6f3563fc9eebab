/- A part of the proof. -/
import Derived.Test.YtjgoddieamphpaaOTU
namespace Go.Proofs.Ytjgoddieamphpaa.Obj
open Go.RowKit Go.Proofs.YtjgoddieamphpaaW.PrintWords Go.Proofs.YtjgoddieamphpaaW.PrintLast Probe Go.Proofs.Ytjgoddieamphpaa.PProbeActs
set_option maxRecDepth 100000
set_option linter.unusedVariables false
theorem new200 (n : Nat) (hn : 1 ≤ n) (hN : n ≤ 200) (w : World) :
    Calls Try.prog 20 #[.int .i64 (n : Int)] w fun e w' => ∃ p b, e = .returned (.tuple #[.pointer (some ⟨p, 0, none⟩), .int .i64 0]) ∧ PF w w' p b n [] (.slice none 0 0) :=
  (itnew (φ := fun x => x) n hn (by omega) w).mono fun e w' ⟨p, b, a, t, h1, h2, h3⟩ => ⟨p, b, a, ⟨t, Kd.R_nil _ _ _ _ _, h3, h1, h2⟩⟩
set_option maxHeartbeats 4000000 in
theorem pf_walk (n : Nat) (A1 : Option Addr) (c1 : Nat) (l1 : List ByteArray) (dr : Int) (w : World) (hr1 : Kd.C Kd.string w A1 l1.length l1) (hc1 : l1.length ≤ c1)
    (hn : 1 ≤ n) (hN : n ≤ 200) (h300 : l1.length ≤ 300) :
    Calls Try.prog 4 #[.int .i64 (n : Int), .slice A1 l1.length c1, .int .i64 dr] w fun e w' => e = .returned (.bool true) ∧ Frm (fun _ => False) w w' := by
  have HR1 := Aside0.mk hr1
  clear hr1
  have d1 : decide ((n : Int) < 1) = false := decide_eq_false (by omega)
  have d2 : decide (n < 1) = false := decide_eq_false (by omega)
  have d3 : decide ((200 : Int) < (n : Int)) = false := decide_eq_false (by omega)
  have d4 : decide (200 < n) = false := decide_eq_false (by omega)
  have d5 : decide ((300 : Int) < (l1.length : Int)) = false := decide_eq_false (by omega)
  have d6 : decide (300 < l1.length) = false := decide_eq_false (by omega)
  go_enter Try.func4, Try.ntmps4
  go_wp2_with fail
  (with_reducible refine (new200 n hn hN _).mono ?_); rintro e w1 ⟨p, b, rfl, hp⟩
  have HP := Aside0.mk hp
  clear hp
  go_wp2
  go_loopw [9, 10] (fun v9 v10 wr => ∃ (A : Option Addr) (c : Nat) (L : List S98) (i : Nat), v9 = .slice A L.length c ∧ v10 = .int .i64 (i : Nat) ∧ i ≤ l1.length ∧ Aside0 (PF w wr p b n L (.slice A L.length c))) (fun _ v10 _ => l1.length - (intOf v10).toNat)
  case atStart => exact ⟨none, 0, [], 0, rfl, rfl, Nat.zero_le _, HP⟩
  case round =>
    clear HP
    obtain ⟨A, c, L, i, rfl, rfl, hi, HP⟩ := hrel
    have hLn := itl_len HP.out.t
    by_cases hlt : i < l1.length
    · obtain ⟨ad1, rfl, hk0⟩ := texts_at HR1.out i hlt
      have q1 := HP.out.cell hk0
      by_cases hks : 200 < (strAt l1 i).size
      · have g1 : decide (200 < (strAt l1 i).size) = true := decide_eq_true hks
        have g2 : decide ((200 : Int) < ((strAt l1 i).size : Int)) = true := decide_eq_true (by omega)
        clear hk0
        go_wp2_with fail
        (with_reducible refine (awake_any _).mono ?_); rintro e w3 ⟨rfl, hf3⟩
        have HF3 := Aside0.mk (HP.out.f.trans hf3)
        clear hf3
        go_wp2
        go_ret
        exact ⟨rfl, HF3.out⟩
      · have g1 : decide (200 < (strAt l1 i).size) = false := decide_eq_false hks
        have g2 : decide ((200 : Int) < ((strAt l1 i).size : Int)) = false := decide_eq_false (by omega)
        have hss := Lib.hid (show (strAt l1 i).size ≤ 9223372036854775807 by omega)
        have HK0 := Lib.hid hk0
        clear hk0 hks
        go_wp2
        go_loopw [11, 12] (fun v11 v12 wr2 => ∃ k : Nat, v11 = .bool (hasB (L.take k) (strAt l1 i)) ∧ v12 = .int .i64 (k : Nat) ∧ k ≤ L.length ∧ Aside0 (PF w wr2 p b n L (.slice A L.length c))) (fun _ v12 _ => L.length - (intOf v12).toNat)
        case atStart => exact ⟨0, rfl, rfl, Nat.zero_le _, HP⟩
        case round =>
          clear HP q1
          obtain ⟨k, rfl, rfl, hk, HP⟩ := hrel
          have q1 := HP.out.cell HK0.out
          by_cases hlt2 : k < L.length
          · obtain ⟨adh, rfl, hh0⟩ := HP.out.at_ k hlt2
            have HTS := Lib.hid (idx_take_succ L k hlt2 (strAt l1 i))
            generalize (L.getD k z98).f0 = kk at hh0 HTS
            cases hm : hasB (L.take k) (strAt l1 i) with
            | true =>
              have HM := Lib.hid hm
              clear hm
              go_wp2
              go_quiet (fail)
              go_wp2
              go_roundw
              case rel => exact ⟨k + 1, by rw [HTS.out, HM.out]; rfl, by go_num, by omega, ⟨HP.out.drewN nq⟩⟩
              case measure => simp [intOf]; omega
            | false =>
              have HM := Lib.hid hm
              clear hm
              by_cases he : kk = strAt l1 i
              · have b1 : (kk.toList == (strAt l1 i).toList) = true := by rw [he]; simp
                have HE := Lib.hid he
                clear he
                go_wp2
                go_quiet (fail)
                go_wp2
                go_roundw
                case rel => exact ⟨k + 1, by rw [HTS.out, HM.out, decide_eq_true HE.out]; rfl, by go_num, by omega, ⟨HP.out.drewN nq⟩⟩
                case measure => simp [intOf]; omega
              · have b1 : (kk.toList == (strAt l1 i).toList) = false := by simpa using bytes_ne he
                have HE := Lib.hid he
                clear he
                go_wp2
                go_quiet (fail)
                go_wp2
                go_roundw
                case rel => exact ⟨k + 1, by rw [HTS.out, HM.out, decide_eq_false HE.out]; rfl, by go_num, by omega, ⟨HP.out.drewN nq⟩⟩
                case measure => simp [intOf]; omega
          · obtain rfl : k = L.length := by omega
            rw [List.take_length]
            have hLn := itl_len HP.out.t
            by_cases hd0 : 0 < dr
            · have y1 : decide (0 < dr) = true := decide_eq_true hd0
              have y2 : (dr == 0) = false := by simp; omega
              have y7 : ¬ dr = 0 := by omega
              have y5 : 0 ≤ dr := by omega
              have y6 : Int.tmod (i : Int) dr = (i : Int) % dr := Int.tmod_eq_emod_of_nonneg (by omega)
              by_cases hd1 : (i : Int) % dr = 0
              · have y3 : (((i : Int) % dr) == 0) = true := by simpa using hd1
                have y4 : ((Int.tmod (i : Int) dr) == 0) = true := by rw [y6]; exact y3
                clear hd0 hd1 y6
                cases hi0 : idx L (strAt l1 i) with
                | some j0 =>
                  have hpos0 : 0 < L.length := by have := (idx_some hi0).1; omega
                  have HM := Lib.hid (show hasB L (strAt l1 i) = true by unfold hasB; rw [hi0]; rfl)
                  have HC := Lib.hid (show putC L n (strAt l1 i) = 0 by unfold putC; rw [hi0])
                  have HKK := Lib.hid (show (putL L n (strAt l1 i) i).map (·.f0) = L.map (·.f0) by rw [putL_keys, hi0])
                  clear hi0
                  rw [HM.out]
                  go_wp2_with fail
                  (with_reducible refine (PF.put_stay HP.out _ hss.out i HKK.out).mono ?_); rintro e w3 ⟨rfl, hp3⟩
                  rw [HC.out]
                  obtain ⟨L3, hL3⟩ : ∃ L3, L3 = putL L n (strAt l1 i) i := ⟨_, rfl⟩
                  rw [← hL3] at hp3
                  have hlen3 : L3.length = L.length := by have := congrArg List.length HKK.out; rw [← hL3] at this; simpa using this
                  rw [← hlen3] at hp3
                  rw [← hlen3]
                  have HP3 := Aside0.mk hp3
                  rw [← hlen3] at hpos0
                  clear hp3 hL3 hlen3 HKK HP
                  obtain ⟨m, hm⟩ : ∃ m, L3.length = m + 1 := ⟨L3.length - 1, by omega⟩
                  have HM3 := Lib.hid hm
                  have z1 : decide (0 < m + 1) = true := decide_eq_true (by omega)
                  have z2 : decide ((0 : Int) < ((m + 1 : Nat) : Int)) = true := decide_eq_true (by omega)
                  have z3 : decide ((0 : Int) < (m : Int) + 1) = true := decide_eq_true (by omega)
                  obtain ⟨adh, rfl, hcl⟩ := HP3.out.at_ m (by omega)
                  have hsz0 := HP3.out.size m (by omega)
                  obtain ⟨kk, hkk⟩ : ∃ kk, (L3.getD m z98).f0 = kk := ⟨_, rfl⟩
                  rw [hkk] at hcl hsz0
                  have hsz := Lib.hid hsz0
                  have HKQ := Lib.hid hkk
                  clear hkk hsz0
                  have hroom : m ≤ c := by have := (pf_room HP3.out).1; omega
                  have hml : m < 1000 := by have := itl_len HP3.out.t; omega
                  rw [hm]
                  rw [hm] at HP3
                  clear hm
                  go_wp2_with fail
                  (with_reducible refine (pf_drop HP3.out HM3.out HKQ.out).mono ?_); rintro e w5 ⟨rfl, hp5⟩
                  have HP5 := Aside0.mk hp5
                  have hcl5 := pd_cell hp5 HM3.out HKQ.out
                  clear hp5
                  go_wp2_with fail
                  (with_reducible refine (pd_again HP5.out HM3.out HKQ.out hsz.out).mono ?_); rintro e w6 ⟨rfl, hp6⟩
                  have HP6 := Aside0.mk (show PD w w6 p b n L3 (.slice (some adh) (m + 1) c) from hp6)
                  clear hp6
                  go_wp2
                  go_roundw
                  case rel => exact ⟨some adh, c, L3.take m, i + 1, by rw [List.length_take, Nat.min_eq_left (by have := HM3.out; omega)], by go_num, by omega, ⟨pd_cut HP6.out HM3.out⟩⟩
                  case measure => simp [intOf]; omega
                | none =>
                  have HM := Lib.hid (show hasB L (strAt l1 i) = false by unfold hasB; rw [hi0]; rfl)
                  by_cases hf : n ≤ L.length
                  · have HC := Lib.hid (show putC L n (strAt l1 i) = 6 by unfold putC; rw [hi0]; exact if_pos hf)
                    have HKK := Lib.hid (show (putL L n (strAt l1 i) i).map (·.f0) = L.map (·.f0) by rw [putL_keys, hi0]; exact if_pos hf)
                    have hpos0 : 0 < L.length := by omega
                    have x1 : ((L.length : Int) == (n : Int)) = true := by simp; omega
                    have x2 : (L.length == n) = true := by simp; omega
                    clear hi0
                    rw [HM.out]
                    go_wp2_with fail
                    (with_reducible refine (PF.put_stay HP.out _ hss.out i HKK.out).mono ?_); rintro e w3 ⟨rfl, hp3⟩
                    rw [HC.out]
                    obtain ⟨L3, hL3⟩ : ∃ L3, L3 = putL L n (strAt l1 i) i := ⟨_, rfl⟩
                    rw [← hL3] at hp3
                    have hlen3 : L3.length = L.length := by have := congrArg List.length HKK.out; rw [← hL3] at this; simpa using this
                    clear x1 x2
                    rw [← hlen3] at hp3
                    rw [← hlen3]
                    have HP3 := Aside0.mk hp3
                    rw [← hlen3] at hpos0
                    clear hp3 hL3 hlen3 HKK HP hf
                    obtain ⟨m, hm⟩ : ∃ m, L3.length = m + 1 := ⟨L3.length - 1, by omega⟩
                    have HM3 := Lib.hid hm
                    have z1 : decide (0 < m + 1) = true := decide_eq_true (by omega)
                    have z2 : decide ((0 : Int) < ((m + 1 : Nat) : Int)) = true := decide_eq_true (by omega)
                    have z3 : decide ((0 : Int) < (m : Int) + 1) = true := decide_eq_true (by omega)
                    obtain ⟨adh, rfl, hcl⟩ := HP3.out.at_ m (by omega)
                    have hsz0 := HP3.out.size m (by omega)
                    obtain ⟨kk, hkk⟩ : ∃ kk, (L3.getD m z98).f0 = kk := ⟨_, rfl⟩
                    rw [hkk] at hcl hsz0
                    have hsz := Lib.hid hsz0
                    have HKQ := Lib.hid hkk
                    clear hkk hsz0
                    have hroom : m ≤ c := by have := (pf_room HP3.out).1; omega
                    have hml : m < 1000 := by have := itl_len HP3.out.t; omega
                    rw [hm]
                    rw [hm] at HP3
                    clear hm
                    go_wp2_with fail
                    (with_reducible refine (pf_drop HP3.out HM3.out HKQ.out).mono ?_); rintro e w5 ⟨rfl, hp5⟩
                    have HP5 := Aside0.mk hp5
                    have hcl5 := pd_cell hp5 HM3.out HKQ.out
                    clear hp5
                    go_wp2_with fail
                    (with_reducible refine (pd_again HP5.out HM3.out HKQ.out hsz.out).mono ?_); rintro e w6 ⟨rfl, hp6⟩
                    have HP6 := Aside0.mk (show PD w w6 p b n L3 (.slice (some adh) (m + 1) c) from hp6)
                    clear hp6
                    go_wp2
                    go_roundw
                    case rel => exact ⟨some adh, c, L3.take m, i + 1, by rw [List.length_take, Nat.min_eq_left (by have := HM3.out; omega)], by go_num, by omega, ⟨pd_cut HP6.out HM3.out⟩⟩
                    case measure => simp [intOf]; omega
                  · have HC := Lib.hid (show putC L n (strAt l1 i) = 0 by unfold putC; rw [hi0]; exact if_neg hf)
                    have HKK := Lib.hid (show (putL L n (strAt l1 i) i).map (·.f0) = L.map (·.f0) ++ [strAt l1 i] by rw [putL_keys, hi0]; exact if_neg hf)
                    have x1 : ((L.length : Int) == (n : Int)) = false := by simp; omega
                    have x2 : (L.length == n) = false := by simp; omega
                    clear hi0
                    rw [HM.out]
                    go_wp2_with fail
                    (with_reducible refine (PF.put_new HP.out _ hss.out i).mono ?_); rintro e w3 ⟨rfl, ht3, hr3, hf3⟩
                    rw [HC.out]
                    obtain ⟨L3, hL3⟩ : ∃ L3, L3 = putL L n (strAt l1 i) i := ⟨_, rfl⟩
                    rw [← hL3] at ht3
                    have HK3 := Lib.hid (show L3.map (·.f0) = L.map (·.f0) ++ [strAt l1 i] by rw [hL3]; exact HKK.out)
                    have hLN := (show (L.map (·.f0) ++ [strAt l1 i]).length = L3.length by rw [← HK3.out, List.length_map])
                    have hpos0 : 0 < L3.length := by rw [← hLN]; simp
                    have hml3 : L3.length ≤ 200 := by have := itl_len ht3; omega
                    have q3 := hf3.cell HK0.out (fun x => x)
                    have HT3 := Aside0.mk ht3
                    have HR3 := Aside0.mk hr3
                    have HB3 := Aside0.mk hf3.to_below
                    have hphb := Aside0.mk (And.intro HP.out.hp HP.out.hb)
                    clear ht3 hr3 hf3 x1 x2 hL3 HKK
                    clear HP
                    obtain ⟨m, hm⟩ : ∃ m, L3.length = m + 1 := ⟨L3.length - 1, by omega⟩
                    have HM3 := Lib.hid hm
                    have z1 : decide (0 < m + 1) = true := decide_eq_true (by omega)
                    have z2 : decide ((0 : Int) < ((m + 1 : Nat) : Int)) = true := decide_eq_true (by omega)
                    have z3 : decide ((0 : Int) < (m : Int) + 1) = true := decide_eq_true (by omega)
                    have HLN := Lib.hid (hLN.trans hm)
                    have hml : m < 1000 := by omega
                    clear hLN hm
                    go_wp2_with (first | (at_builtin; refine Kd.R_append Kd.string _ rfl (.tmp 92) (.tmp 97) 22 9 (.string ⟨#[]⟩) 16 rfl Try.underlying22 info_str rfl (by decide) (by omega) (.slice A L.length c) (L.map (·.f0)) (strAt l1 i) [.string (strAt l1 i)] (fun _ => True) (fun _ => False) rfl rfl rfl (fun _ h => h.elim) (fun _ _ => trivial) HR3.out HB3.out HB3.out.size (by rw [List.length_map]; omega) ?_; intro v4 w4 hv4 hb4 hg4 hx4; obtain ⟨A4, c4, e4⟩ := Kd.R_slice hv4; rw [HLN.out] at e4; subst e4; have HP3 := Aside0.mk (PF.appended HT3.out HR3.out hg4 hv4 hb4 HK3.out hphb.out.1 hphb.out.2); clear hv4 hb4 hg4 hx4; obtain ⟨adh, rfl, hcl⟩ := HP3.out.at_ m (by have := HM3.out; omega); have hsz0 := HP3.out.size m (by have := HM3.out; omega); obtain ⟨kk, hkk⟩ : ∃ kk, (L3.getD m z98).f0 = kk := ⟨_, rfl⟩; rw [hkk] at hcl hsz0; have hsz := Lib.hid hsz0; have HKQ := Lib.hid hkk; clear hkk hsz0; have hroom : m ≤ c4 := (by have h_ := (pf_room HP3.out).1; have h2_ := HM3.out; omega)))
                    (with_reducible refine (pf_drop HP3.out HM3.out HKQ.out).mono ?_); rintro e w5 ⟨rfl, hp5⟩
                    have HP5 := Aside0.mk hp5
                    have hcl5 := pd_cell hp5 HM3.out HKQ.out
                    clear hp5
                    go_wp2_with fail
                    (with_reducible refine (pd_again HP5.out HM3.out HKQ.out hsz.out).mono ?_); rintro e w6 ⟨rfl, hp6⟩
                    have HP6 := Aside0.mk (show PD w w6 p b n L3 (.slice (some adh) (m + 1) c4) from hp6)
                    clear hp6
                    go_wp2
                    go_roundw
                    case rel => exact ⟨some adh, c4, L3.take m, i + 1, by rw [List.length_take, Nat.min_eq_left (by have := HM3.out; omega)], by go_num, by omega, ⟨pd_cut HP6.out HM3.out⟩⟩
                    case measure => simp [intOf]; omega
              · have y3 : (((i : Int) % dr) == 0) = false := by simpa using hd1
                have y4 : ((Int.tmod (i : Int) dr) == 0) = false := by rw [y6]; exact y3
                clear hd0 hd1 y6
                cases hi0 : idx L (strAt l1 i) with
                | some j0 =>
                  have hpos0 : 0 < L.length := by have := (idx_some hi0).1; omega
                  have HM := Lib.hid (show hasB L (strAt l1 i) = true by unfold hasB; rw [hi0]; rfl)
                  have HC := Lib.hid (show putC L n (strAt l1 i) = 0 by unfold putC; rw [hi0])
                  have HKK := Lib.hid (show (putL L n (strAt l1 i) i).map (·.f0) = L.map (·.f0) by rw [putL_keys, hi0])
                  clear hi0
                  rw [HM.out]
                  go_wp2_with fail
                  (with_reducible refine (PF.put_stay HP.out _ hss.out i HKK.out).mono ?_); rintro e w3 ⟨rfl, hp3⟩
                  rw [HC.out]
                  obtain ⟨L3, hL3⟩ : ∃ L3, L3 = putL L n (strAt l1 i) i := ⟨_, rfl⟩
                  rw [← hL3] at hp3
                  have hlen3 : L3.length = L.length := by have := congrArg List.length HKK.out; rw [← hL3] at this; simpa using this
                  rw [← hlen3] at hp3
                  rw [← hlen3]
                  have HP3 := Aside0.mk hp3
                  rw [← hlen3] at hpos0
                  clear hp3 hL3 hlen3 HKK HP
                  go_wp2
                  go_roundw
                  case rel => exact ⟨A, c, L3, i + 1, rfl, by go_num, by omega, HP3⟩
                  case measure => simp [intOf]; omega
                | none =>
                  have HM := Lib.hid (show hasB L (strAt l1 i) = false by unfold hasB; rw [hi0]; rfl)
                  by_cases hf : n ≤ L.length
                  · have HC := Lib.hid (show putC L n (strAt l1 i) = 6 by unfold putC; rw [hi0]; exact if_pos hf)
                    have HKK := Lib.hid (show (putL L n (strAt l1 i) i).map (·.f0) = L.map (·.f0) by rw [putL_keys, hi0]; exact if_pos hf)
                    have hpos0 : 0 < L.length := by omega
                    have x1 : ((L.length : Int) == (n : Int)) = true := by simp; omega
                    have x2 : (L.length == n) = true := by simp; omega
                    clear hi0
                    rw [HM.out]
                    go_wp2_with fail
                    (with_reducible refine (PF.put_stay HP.out _ hss.out i HKK.out).mono ?_); rintro e w3 ⟨rfl, hp3⟩
                    rw [HC.out]
                    obtain ⟨L3, hL3⟩ : ∃ L3, L3 = putL L n (strAt l1 i) i := ⟨_, rfl⟩
                    rw [← hL3] at hp3
                    have hlen3 : L3.length = L.length := by have := congrArg List.length HKK.out; rw [← hL3] at this; simpa using this
                    clear x1 x2
                    rw [← hlen3] at hp3
                    rw [← hlen3]
                    have HP3 := Aside0.mk hp3
                    rw [← hlen3] at hpos0
                    clear hp3 hL3 hlen3 HKK HP hf
                    go_wp2
                    go_roundw
                    case rel => exact ⟨A, c, L3, i + 1, rfl, by go_num, by omega, HP3⟩
                    case measure => simp [intOf]; omega
                  · have HC := Lib.hid (show putC L n (strAt l1 i) = 0 by unfold putC; rw [hi0]; exact if_neg hf)
                    have HKK := Lib.hid (show (putL L n (strAt l1 i) i).map (·.f0) = L.map (·.f0) ++ [strAt l1 i] by rw [putL_keys, hi0]; exact if_neg hf)
                    have x1 : ((L.length : Int) == (n : Int)) = false := by simp; omega
                    have x2 : (L.length == n) = false := by simp; omega
                    clear hi0
                    rw [HM.out]
                    go_wp2_with fail
                    (with_reducible refine (PF.put_new HP.out _ hss.out i).mono ?_); rintro e w3 ⟨rfl, ht3, hr3, hf3⟩
                    rw [HC.out]
                    obtain ⟨L3, hL3⟩ : ∃ L3, L3 = putL L n (strAt l1 i) i := ⟨_, rfl⟩
                    rw [← hL3] at ht3
                    have HK3 := Lib.hid (show L3.map (·.f0) = L.map (·.f0) ++ [strAt l1 i] by rw [hL3]; exact HKK.out)
                    have hLN := (show (L.map (·.f0) ++ [strAt l1 i]).length = L3.length by rw [← HK3.out, List.length_map])
                    have hpos0 : 0 < L3.length := by rw [← hLN]; simp
                    have hml3 : L3.length ≤ 200 := by have := itl_len ht3; omega
                    have q3 := hf3.cell HK0.out (fun x => x)
                    have HT3 := Aside0.mk ht3
                    have HR3 := Aside0.mk hr3
                    have HB3 := Aside0.mk hf3.to_below
                    have hphb := Aside0.mk (And.intro HP.out.hp HP.out.hb)
                    clear ht3 hr3 hf3 x1 x2 hL3 HKK
                    clear HP
                    have HLN := Lib.hid hLN
                    clear hLN
                    go_wp2_with (first | (at_builtin; refine Kd.R_append Kd.string _ rfl (.tmp 92) (.tmp 97) 22 9 (.string ⟨#[]⟩) 16 rfl Try.underlying22 info_str rfl (by decide) (by omega) (.slice A L.length c) (L.map (·.f0)) (strAt l1 i) [.string (strAt l1 i)] (fun _ => True) (fun _ => False) rfl rfl rfl (fun _ h => h.elim) (fun _ _ => trivial) HR3.out HB3.out HB3.out.size (by rw [List.length_map]; omega) ?_; intro v4 w4 hv4 hb4 hg4 hx4; obtain ⟨A4, c4, e4⟩ := Kd.R_slice hv4; rw [HLN.out] at e4; subst e4; have HP3 := Aside0.mk (PF.appended HT3.out HR3.out hg4 hv4 hb4 HK3.out hphb.out.1 hphb.out.2); clear hv4 hb4 hg4 hx4))
                    go_roundw
                    case rel => exact ⟨A4, c4, L3, i + 1, rfl, by go_num, by omega, HP3⟩
                    case measure => simp [intOf]; omega
            · have y1 : decide (0 < dr) = false := decide_eq_false hd0
              clear hd0
              cases hi0 : idx L (strAt l1 i) with
              | some j0 =>
                have hpos0 : 0 < L.length := by have := (idx_some hi0).1; omega
                have HM := Lib.hid (show hasB L (strAt l1 i) = true by unfold hasB; rw [hi0]; rfl)
                have HC := Lib.hid (show putC L n (strAt l1 i) = 0 by unfold putC; rw [hi0])
                have HKK := Lib.hid (show (putL L n (strAt l1 i) i).map (·.f0) = L.map (·.f0) by rw [putL_keys, hi0])
                clear hi0
                rw [HM.out]
                go_wp2_with fail
                (with_reducible refine (PF.put_stay HP.out _ hss.out i HKK.out).mono ?_); rintro e w3 ⟨rfl, hp3⟩
                rw [HC.out]
                obtain ⟨L3, hL3⟩ : ∃ L3, L3 = putL L n (strAt l1 i) i := ⟨_, rfl⟩
                rw [← hL3] at hp3
                have hlen3 : L3.length = L.length := by have := congrArg List.length HKK.out; rw [← hL3] at this; simpa using this
                rw [← hlen3] at hp3
                rw [← hlen3]
                have HP3 := Aside0.mk hp3
                rw [← hlen3] at hpos0
                clear hp3 hL3 hlen3 HKK HP
                go_wp2
                go_roundw
                case rel => exact ⟨A, c, L3, i + 1, rfl, by go_num, by omega, HP3⟩
                case measure => simp [intOf]; omega
              | none =>
                have HM := Lib.hid (show hasB L (strAt l1 i) = false by unfold hasB; rw [hi0]; rfl)
                by_cases hf : n ≤ L.length
                · have HC := Lib.hid (show putC L n (strAt l1 i) = 6 by unfold putC; rw [hi0]; exact if_pos hf)
                  have HKK := Lib.hid (show (putL L n (strAt l1 i) i).map (·.f0) = L.map (·.f0) by rw [putL_keys, hi0]; exact if_pos hf)
                  have hpos0 : 0 < L.length := by omega
                  have x1 : ((L.length : Int) == (n : Int)) = true := by simp; omega
                  have x2 : (L.length == n) = true := by simp; omega
                  clear hi0
                  rw [HM.out]
                  go_wp2_with fail
                  (with_reducible refine (PF.put_stay HP.out _ hss.out i HKK.out).mono ?_); rintro e w3 ⟨rfl, hp3⟩
                  rw [HC.out]
                  obtain ⟨L3, hL3⟩ : ∃ L3, L3 = putL L n (strAt l1 i) i := ⟨_, rfl⟩
                  rw [← hL3] at hp3
                  have hlen3 : L3.length = L.length := by have := congrArg List.length HKK.out; rw [← hL3] at this; simpa using this
                  clear x1 x2
                  rw [← hlen3] at hp3
                  rw [← hlen3]
                  have HP3 := Aside0.mk hp3
                  rw [← hlen3] at hpos0
                  clear hp3 hL3 hlen3 HKK HP hf
                  go_wp2
                  go_roundw
                  case rel => exact ⟨A, c, L3, i + 1, rfl, by go_num, by omega, HP3⟩
                  case measure => simp [intOf]; omega
                · have HC := Lib.hid (show putC L n (strAt l1 i) = 0 by unfold putC; rw [hi0]; exact if_neg hf)
                  have HKK := Lib.hid (show (putL L n (strAt l1 i) i).map (·.f0) = L.map (·.f0) ++ [strAt l1 i] by rw [putL_keys, hi0]; exact if_neg hf)
                  have x1 : ((L.length : Int) == (n : Int)) = false := by simp; omega
                  have x2 : (L.length == n) = false := by simp; omega
                  clear hi0
                  rw [HM.out]
                  go_wp2_with fail
                  (with_reducible refine (PF.put_new HP.out _ hss.out i).mono ?_); rintro e w3 ⟨rfl, ht3, hr3, hf3⟩
                  rw [HC.out]
                  obtain ⟨L3, hL3⟩ : ∃ L3, L3 = putL L n (strAt l1 i) i := ⟨_, rfl⟩
                  rw [← hL3] at ht3
                  have HK3 := Lib.hid (show L3.map (·.f0) = L.map (·.f0) ++ [strAt l1 i] by rw [hL3]; exact HKK.out)
                  have hLN := (show (L.map (·.f0) ++ [strAt l1 i]).length = L3.length by rw [← HK3.out, List.length_map])
                  have hpos0 : 0 < L3.length := by rw [← hLN]; simp
                  have hml3 : L3.length ≤ 200 := by have := itl_len ht3; omega
                  have q3 := hf3.cell HK0.out (fun x => x)
                  have HT3 := Aside0.mk ht3
                  have HR3 := Aside0.mk hr3
                  have HB3 := Aside0.mk hf3.to_below
                  have hphb := Aside0.mk (And.intro HP.out.hp HP.out.hb)
                  clear ht3 hr3 hf3 x1 x2 hL3 HKK
                  clear HP
                  have HLN := Lib.hid hLN
                  clear hLN
                  go_wp2_with (first | (at_builtin; refine Kd.R_append Kd.string _ rfl (.tmp 92) (.tmp 97) 22 9 (.string ⟨#[]⟩) 16 rfl Try.underlying22 info_str rfl (by decide) (by omega) (.slice A L.length c) (L.map (·.f0)) (strAt l1 i) [.string (strAt l1 i)] (fun _ => True) (fun _ => False) rfl rfl rfl (fun _ h => h.elim) (fun _ _ => trivial) HR3.out HB3.out HB3.out.size (by rw [List.length_map]; omega) ?_; intro v4 w4 hv4 hb4 hg4 hx4; obtain ⟨A4, c4, e4⟩ := Kd.R_slice hv4; rw [HLN.out] at e4; subst e4; have HP3 := Aside0.mk (PF.appended HT3.out HR3.out hg4 hv4 hb4 HK3.out hphb.out.1 hphb.out.2); clear hv4 hb4 hg4 hx4))
                  go_roundw
                  case rel => exact ⟨A4, c4, L3, i + 1, rfl, by go_num, by omega, HP3⟩
                  case measure => simp [intOf]; omega
    · obtain rfl : i = l1.length := by omega
      go_wp2_with fail
      (with_reducible refine (itlen HP.out.t).mono ?_); rintro e w5 ⟨rfl, rfl⟩
      go_wp2_with fail
      (with_reducible refine (awake_any _).mono ?_); rintro e w3 ⟨rfl, hf3⟩
      have HF3 := Aside0.mk (HP.out.f.trans hf3)
      clear hf3
      go_wp2
      go_ret
      exact ⟨rfl, HF3.out⟩
end Go.Proofs.Ytjgoddieamphpaa.Obj
