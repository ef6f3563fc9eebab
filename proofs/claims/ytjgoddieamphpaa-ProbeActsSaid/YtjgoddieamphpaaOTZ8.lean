/- A part of the proof. -/
import Derived.Test.YtjgoddieamphpaaOTZ7
import Derived.Deep.RegionWith
namespace Go.Proofs.Ytjgoddieamphpaa.Obj
open Go.RowKit Go.Sort Go.Proofs.YtjgoddieamphpaaW.PrintWords Go.Proofs.YtjgoddieamphpaaW.PrintLast Probe Go.Proofs.Ytjgoddieamphpaa.PProbeActs
set_option maxRecDepth 100000
set_option linter.unusedVariables false
theorem pa_light (n : Int) (A : Option Addr) (c : Nat) (l : List S76) (w : World) (hr : Kd.C k76 w A l.length l) (hc : l.length ≤ c) (hN : l.length ≤ 4000000000000000000) (r : Bool) (hl : turncocklaw21_light.f (2 * l.length + 2) l = some r) (h : r = false ∨ 64 < n) :
    Calls Try.prog 10 #[.int .i64 n, .slice A l.length c] w fun e w' => e = .returned (.bool true) ∧ Frm (fun _ => False) w w' := by
  have HR := Aside0.mk hr
  have HL := Lib.hid hl
  clear hr hl
  cases r with
  | false =>
    clear h
    go_enter Try.func10, Try.ntmps10
    go_wp2_with fail
    (with_reducible refine (turncocklaw21_light.calls (2 * l.length + 2) A c l false _ HR.out hc HL.out).mono ?_); rintro e w1 ⟨rfl, q, rfl⟩
    go_wp2_with fail
    (with_reducible refine (awake_any _).mono ?_); rintro e w3 ⟨rfl, hf3⟩
    have HF3 := Aside0.mk hf3
    clear hf3
    go_wp2
    go_ret
    exact ⟨rfl, ((Frm.refl _ w).drewN q).trans HF3.out⟩
  | true =>
    have h64 : 64 < n := by rcases h with h | h; cases h; exact h
    have d1 : decide (64 < n) = true := decide_eq_true h64
    clear h h64
    go_enter Try.func10, Try.ntmps10
    go_wp2_with fail
    (with_reducible refine (turncocklaw21_light.calls (2 * l.length + 2) A c l true _ HR.out hc HL.out).mono ?_); rintro e w1 ⟨rfl, q, rfl⟩
    go_wp2_with fail
    (with_reducible refine (awake_any _).mono ?_); rintro e w3 ⟨rfl, hf3⟩
    have HF3 := Aside0.mk hf3
    clear hf3
    go_wp2
    go_ret
    exact ⟨rfl, ((Frm.refl _ w).drewN q).trans HF3.out⟩
theorem pa_low (n : Int) (A : Option Addr) (c : Nat) (l : List S76) (w : World) (hr : Kd.C k76 w A l.length l) (hc : l.length ≤ c) (hl : turncocklaw21_light.f (2 * l.length + 2) l = some true) (h : n < 1) :
    Calls Try.prog 10 #[.int .i64 n, .slice A l.length c] w fun e w' => e = .returned (.bool true) ∧ Frm (fun _ => False) w w' := by
  have HR := Aside0.mk hr
  have HL := Lib.hid hl
  have HB := Lib.hid (show n < 1 ∨ 4096 < n from .inl h)
  have d1 : decide (64 < n) = false := decide_eq_false (by omega)
  have d2 : decide (n < 1) = true := decide_eq_true h
  clear hr hl h
  go_enter Try.func10, Try.ntmps10
  go_wp2_with fail
  (with_reducible refine (turncocklaw21_light.calls (2 * l.length + 2) A c l true _ HR.out hc HL.out).mono ?_); rintro e w1 ⟨rfl, q, rfl⟩
  go_wp2_with fail
  (with_reducible refine (inew_bad n HB.out _).mono ?_); rintro e w2 ⟨rfl, rfl⟩
  go_wp2_with fail
  (with_reducible refine (awake_any _).mono ?_); rintro e w3 ⟨rfl, hf3⟩
  have HF3 := Aside0.mk hf3
  clear hf3
  go_wp2
  go_ret
  exact ⟨rfl, ((Frm.refl _ w).drewN q).trans HF3.out⟩
set_option maxHeartbeats 8000000 in
theorem pa_walk (n : Nat) (A : Option Addr) (c : Nat) (l : List S76) (w : World) (hr : Kd.C k76 w A l.length l) (hc : l.length ≤ c) (hl : turncocklaw21_light.f (2 * l.length + 2) l = some true) (hn : 1 ≤ n) (hN : n ≤ 64) (h200 : l.length ≤ 200) (hsz : ∀ q, q < l.length → (l.getD q z76).f1.size ≤ 100) :
    Calls Try.prog 10 #[.int .i64 (n : Int), .slice A l.length c] w fun e w' => e = .returned (.bool true) ∧ Frm (fun _ => False) w w' := by
  have HR := Aside0.mk hr
  have HL := Lib.hid hl
  have HS := Lib.hid hsz
  have HN := Lib.hid (show n ≤ 5000 by omega)
  have HN1 := Lib.hid (show n ≤ 100 by omega)
  have d1 : decide ((64 : Int) < (n : Int)) = false := decide_eq_false (by omega)
  have d2 : decide (64 < n) = false := decide_eq_false (by omega)
  have d3 : decide ((n : Int) < 1) = false := decide_eq_false (by omega)
  have d4 : decide (n < 1) = false := decide_eq_false (by omega)
  clear hr hl hsz
  go_enter Try.func10, Try.ntmps10
  go_wp2_with fail
  (with_reducible refine (turncocklaw21_light.calls (2 * l.length + 2) A c l true _ HR.out hc HL.out).mono ?_); rintro e w1 ⟨rfl, q, rfl⟩
  go_wp2_with fail
  (with_reducible refine (new64i n hn hN _).mono ?_); rintro e w1 ⟨p, b, rfl, ht, hp, hb, hf⟩
  have HP := Aside0.mk (pa_start (w := w) ht hp hb (((Frm.refl _ w).drewN q).trans hf))
  clear ht hf
  go_wp2
  generalize hm : w1.heap.size = m at *
  clear hm
  go_loopw [8] (fun v8 wr => ∃ (i : Nat) (L : List S98), v8 = .int .i64 (i : Nat) ∧ i ≤ l.length ∧ Aside0 (PA w wr p b m n L L)) (fun v8 _ => l.length - (intOf v8).toNat)
  case atStart => exact ⟨0, [], rfl, Nat.zero_le _, HP⟩
  case round =>
    clear HP
    obtain ⟨i, L, rfl, hi, HP⟩ := hrel
    by_cases hlt : i < l.length
    · obtain ⟨ad, rfl, c0, c1, c2⟩ := at_T76 HR.out (i : Int) (by omega) (by omega)
      have hks := HS.out i hlt
      have e9 : rd_T76 l (i : Int) = l.getD i z76 := by unfold rd_T76; rw [Int.toNat_natCast]
      rw [e9, Int.toNat_natCast] at c0 c1 c2
      obtain ⟨x, hx⟩ : ∃ x, x = l.getD i z76 := ⟨_, rfl⟩
      rw [← hx] at c0 c1 c2 hks
      obtain ⟨kd, hkd⟩ : ∃ kd, kd = x.f0 := ⟨_, rfl⟩
      obtain ⟨k, hk⟩ : ∃ k, k = x.f1 := ⟨_, rfl⟩
      obtain ⟨v, hv⟩ : ∃ v, v = x.f2 := ⟨_, rfl⟩
      rw [← hkd] at c0
      rw [← hk] at c1 hks
      rw [← hv] at c2
      have HKS := Lib.hid hks
      have C0 := Lib.hid c0
      have C1 := Lib.hid c1
      have C2 := Lib.hid c2
      have g0 := HP.out.cell c0
      have g1 := HP.out.cell c1
      have g2 := HP.out.cell c2
      clear e9 hx hkd hk hv hks c0 c1 c2
      by_cases hk0 : kd = 0
      · subst hk0
        go_upto_region 14 with (fail)
        go_cut [83] (fun v83 wc => v83 = .bool false ∧ ∃ L2, Aside0 (PA w wc p b m n L2 L2))
        case first =>
          go_region_with (first | (go_at_call 21; refine (PA.put_t (by first | exact HP2.out | exact HP2.out.drew | exact HP.out.drew | exact HP.out) k HKS.out v).mono ?_; rintro e w1 ⟨rfl, hp1⟩; have HP1 := Aside0.mk hp1; have q1 := hp1.cell C1.out; have q2 := hp1.cell C2.out; clear hp1) | (go_at_call 16; refine (PA.put_r (by first | exact HP1.out | exact HP1.out.drew | exact HP.out.drew | exact HP.out) HN.out k v).mono ?_; rintro e w2 ⟨rfl, hp2⟩; have HP2 := Aside0.mk hp2; have q3 := hp2.cell C1.out; have q4 := hp2.cell C2.out; clear hp2))
          all_goals go_wp2
          all_goals go_meet
          all_goals (case rel => first | exact ⟨by simp, _, ⟨HP2.out⟩⟩ | exact ⟨by simp, _, ⟨HP1.out⟩⟩)
        case rest =>
          clear HP g0 g1 g2
          obtain ⟨rfl, L2, HP⟩ := hcut
          have g0 := HP.out.cell C0.out
          have g1 := HP.out.cell C1.out
          have HX : Aside0 (∃ G B, getV L2 k = G ∧ hasB L2 k = B) := ⟨_, _, rfl, rfl⟩
          obtain ⟨G, B, hG, hB⟩ := HX.out
          have u1 : (G != G) = false := by simp
          have u2 : (B != B) = false := by simp
          have HG := Lib.hid hG
          have HB := Lib.hid hB
          clear hG hB HX
          go_wp2_with fail
          (with_reducible refine (HP.out.get_t k HKS.out).mono ?_); rintro e w3 ⟨rfl, rfl⟩
          rw [HG.out, HB.out]
          go_wp2_with fail
          (with_reducible refine (HP.out.get_r k).mono ?_); rintro e w4 ⟨rfl, hp4⟩
          rw [HG.out, HB.out]
          have HP4 := Aside0.mk hp4
          have q4 := hp4.cell C1.out
          clear hp4 g0 g1
          go_wp2_with fail
          (with_reducible refine (HP4.out.at_ k HKS.out).mono ?_); rintro e w5 ⟨ia, rfl, hia, rfl⟩
          rw [HB.out] at hia
          go_wp2_with fail
          (with_reducible refine (HP4.out.walks HN1.out).mono ?_); rintro e w6 ⟨rfl, hp6⟩
          have HP6 := Aside0.mk hp6
          clear hp6
          go_wp2
          go_roundw
          case rel => exact ⟨i + 1, L2, by go_num, by omega, HP6⟩
          case measure => simp [intOf]; omega
      · have t1 : (kd == 0) = false := by simpa using hk0
        by_cases hk1 : kd = 1
        · subst hk1
          go_upto_region 17 with (fail)
          go_cut [100] (fun v100 wc => v100 = .bool false ∧ ∃ L2, Aside0 (PA w wc p b m n L2 L2))
          case first =>
            go_region_with (first | (go_at_call 22; refine (PA.drop_t (by first | exact HP2.out | exact HP2.out.drew | exact HP.out.drew | exact HP.out) k HKS.out).mono ?_; rintro e w1 ⟨rfl, hp1⟩; have HP1 := Aside0.mk hp1; have q1 := hp1.cell C1.out; clear hp1) | (go_at_call 48; refine (PA.drop_r (by first | exact HP1.out | exact HP1.out.drew | exact HP.out.drew | exact HP.out) k).mono ?_; rintro e w2 ⟨rfl, hp2⟩; have HP2 := Aside0.mk hp2; have q3 := hp2.cell C1.out; clear hp2))
            all_goals go_wp2
            all_goals go_meet
            all_goals (case rel => first | exact ⟨by simp, _, ⟨HP2.out⟩⟩ | exact ⟨by simp, _, ⟨HP1.out⟩⟩)
          case rest =>
            clear HP g0 g1 g2
            obtain ⟨rfl, L2, HP⟩ := hcut
            have g0 := HP.out.cell C0.out
            have g1 := HP.out.cell C1.out
            have HX : Aside0 (∃ G B, getV L2 k = G ∧ hasB L2 k = B) := ⟨_, _, rfl, rfl⟩
            obtain ⟨G, B, hG, hB⟩ := HX.out
            have u1 : (G != G) = false := by simp
            have u2 : (B != B) = false := by simp
            have HG := Lib.hid hG
            have HB := Lib.hid hB
            clear hG hB HX
            go_wp2_with fail
            (with_reducible refine (HP.out.get_t k HKS.out).mono ?_); rintro e w3 ⟨rfl, rfl⟩
            rw [HG.out, HB.out]
            go_wp2_with fail
            (with_reducible refine (HP.out.get_r k).mono ?_); rintro e w4 ⟨rfl, hp4⟩
            rw [HG.out, HB.out]
            have HP4 := Aside0.mk hp4
            have q4 := hp4.cell C1.out
            clear hp4 g0 g1
            go_wp2_with fail
            (with_reducible refine (HP4.out.at_ k HKS.out).mono ?_); rintro e w5 ⟨ia, rfl, hia, rfl⟩
            rw [HB.out] at hia
            go_wp2_with fail
            (with_reducible refine (HP4.out.walks HN1.out).mono ?_); rintro e w6 ⟨rfl, hp6⟩
            have HP6 := Aside0.mk hp6
            clear hp6
            go_wp2
            go_roundw
            case rel => exact ⟨i + 1, L2, by go_num, by omega, HP6⟩
            case measure => simp [intOf]; omega
        · have t2 : (kd == 1) = false := by simpa using hk1
          clear hk0 hk1
          have HP : Aside0 (PA w _ p b m n L L) := HP
          have g0 := HP.out.cell C0.out
          have g1 := HP.out.cell C1.out
          have HX : Aside0 (∃ G B, getV L k = G ∧ hasB L k = B) := ⟨_, _, rfl, rfl⟩
          obtain ⟨G, B, hG, hB⟩ := HX.out
          have u1 : (G != G) = false := by simp
          have u2 : (B != B) = false := by simp
          have HG := Lib.hid hG
          have HB := Lib.hid hB
          clear hG hB HX
          go_wp2_with fail
          (with_reducible refine (HP.out.get_t k HKS.out).mono ?_); rintro e w3 ⟨rfl, rfl⟩
          rw [HG.out, HB.out]
          go_wp2_with fail
          (with_reducible refine (HP.out.get_r k).mono ?_); rintro e w4 ⟨rfl, hp4⟩
          rw [HG.out, HB.out]
          have HP4 := Aside0.mk hp4
          have q4 := hp4.cell C1.out
          clear hp4 g0 g1
          go_wp2_with fail
          (with_reducible refine (HP4.out.at_ k HKS.out).mono ?_); rintro e w5 ⟨ia, rfl, hia, rfl⟩
          rw [HB.out] at hia
          go_wp2_with fail
          (with_reducible refine (HP4.out.walks HN1.out).mono ?_); rintro e w6 ⟨rfl, hp6⟩
          have HP6 := Aside0.mk hp6
          clear hp6
          go_wp2
          go_roundw
          case rel => exact ⟨i + 1, L, by go_num, by omega, HP6⟩
          case measure => simp [intOf]; omega
    · obtain rfl : i = l.length := by omega
      have l1 : decide ((l.length : Int) < (l.length : Int)) = false := decide_eq_false (by omega)
      go_wp2_with fail
      (with_reducible refine (awake_any _).mono ?_); rintro e w3 ⟨rfl, hf3⟩
      have HF3 := Aside0.mk (HP.out.f.trans hf3)
      clear hf3
      go_wp2
      go_ret
      exact ⟨rfl, HF3.out⟩
end Go.Proofs.Ytjgoddieamphpaa.Obj
