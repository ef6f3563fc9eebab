/- WheelActs, step by step. -/
import Derived.Test.YtjgoddieamphpaaMD
import Derived.Deep.RegionWith
namespace Go.Proofs.Ytjgoddieamphpaa.Wh
open Go.RowKit Go.Sort Go.Proofs.YtjgoddieamphpaaW.PrintWords Go.Proofs.YtjgoddieamphpaaW.PrintLast Heap Go.Proofs.Ytjgoddieamphpaa.Obj Go.Proofs.Ytjgoddieamphpaa.PWheelActs
set_option maxRecDepth 100000
set_option linter.unusedVariables false
theorem light_l0 (l : List S53) (hN : l.length ≤ 9223372036854775807) : ∀ d i k, l.length = i + d → 2 * d + 2 ≤ k → ∃ r, turncocklaw22_light.l0 k l (i : Int) = some r ∧ (r = true → l.length ≤ 200 ∧ ∀ q, i ≤ q → q < l.length → (l.getD q z53).f1.size ≤ 100)
  | 0, i, k, hd, hk => by
    obtain ⟨k, rfl⟩ : ∃ m, k = m + 2 := ⟨k - 2, by omega⟩
    simp only [turncocklaw22_light.l0, turncocklaw22_light.j1]
    rw [if_neg (by omega), if_neg (by decide)]
    exact ⟨_, rfl, fun h => ⟨by have := of_decide_eq_true h; omega, fun q h1 h2 => by omega⟩⟩
  | d + 1, i, k, hd, hk => by
    obtain ⟨k, rfl⟩ : ∃ m, k = m + 2 := ⟨k - 2, by omega⟩
    simp only [turncocklaw22_light.l0, turncocklaw22_light.j1]
    rw [if_pos (by omega)]
    by_cases h3 : (i : Int) < 300
    · rw [decide_eq_true h3, if_pos rfl, if_pos (by omega), if_pos (by omega)]
      have e : rd_T53 l (i : Int) = l.getD i z53 := by unfold rd_T53; rw [Int.toNat_natCast]
      rw [e]
      by_cases hs : (((l.getD i z53).f1.size : Nat) : Int) > 100
      · rw [if_pos hs]; exact ⟨_, rfl, fun h => by cases h⟩
      · rw [if_neg hs, show wrap64 ((i : Int) + 1) = ((i + 1 : Nat) : Int) from by unfold wrap64; omega]
        obtain ⟨r, hr, h⟩ := light_l0 l hN d (i + 1) k (by omega) (by omega)
        refine ⟨r, hr, fun ht => ⟨(h ht).1, fun q h1 h2 => ?_⟩⟩
        by_cases hq : q = i
        · subst hq; omega
        · exact (h ht).2 q (by omega) h2
    · rw [decide_eq_false h3, if_neg (by decide)]
      exact ⟨_, rfl, fun h => by have := of_decide_eq_true h; omega⟩
theorem light_f (l : List S53) (hN : l.length ≤ 9223372036854775807) : ∃ r, turncocklaw22_light.f (2 * l.length + 2) l = some r ∧ (r = true → l.length ≤ 200 ∧ ∀ q, q < l.length → (l.getD q z53).f1.size ≤ 100) := by
  obtain ⟨r, hr, h⟩ := light_l0 l hN l.length 0 (2 * l.length + 2) (by omega) (by omega)
  exact ⟨r, hr, fun ht => ⟨(h ht).1, fun q hq => (h ht).2 q (by omega) hq⟩⟩
theorem wa_start {w w1 : World} {S : Nat → Prop} {p : Nat} (h : WB w w1 S p []) : WA w (w1.alloc (.cells #[.slice none 0 0] 51)) S p w1.heap.size [] [] :=
  ⟨h.k.frm ((Frm.refl (fun _ => False) w1).alloc _) (fun _ _ e => e), ⟨.slice none 0 0, ⟨blk_new _ _, Kd.R_nil _ _ _ _ _, by simp⟩⟩, h.f.alloc _, h.lo, h.f.size⟩
theorem wa_out (A : Option Addr) (c : Nat) (l : List S53) (w : World) (hr : Kd.C k53 w A l.length l) (hc : l.length ≤ c) (hl : turncocklaw22_light.f (2 * l.length + 2) l = some false) :
    Calls Try.prog 5 #[.slice A l.length c] w fun e w' => e = .returned (.bool true) ∧ Frm (fun _ => False) w w' := by
  have HR := Aside0.mk hr
  have HL := Lib.hid hl
  clear hr hl
  go_enter Try.func5, Try.ntmps5
  go_wp2_with fail
  (with_reducible refine (turncocklaw22_light.calls (2 * l.length + 2) A c l false _ HR.out hc HL.out).mono ?_); rintro e w1 ⟨rfl, q, rfl⟩
  go_wp2_with fail
  (with_reducible refine (wawake_any _).mono ?_); rintro e w3 ⟨rfl, hf3⟩
  have HF3 := Aside0.mk hf3
  clear hf3
  go_wp2
  go_ret
  exact ⟨rfl, ((Frm.refl _ w).drewN q).trans HF3.out⟩
set_option maxHeartbeats 8000000 in
theorem wa_walk (A : Option Addr) (c : Nat) (l : List S53) (w : World) (hr : Kd.C k53 w A l.length l) (hc : l.length ≤ c) (hl : turncocklaw22_light.f (2 * l.length + 2) l = some true) (h200 : l.length ≤ 200) (hsz : ∀ q, q < l.length → (l.getD q z53).f1.size ≤ 100) :
    Calls Try.prog 5 #[.slice A l.length c] w fun e w' => e = .returned (.bool true) ∧ Frm (fun _ => False) w w' := by
  have HR := Aside0.mk hr
  have HL := Lib.hid hl
  have HS := Lib.hid hsz
  clear hr hl hsz
  go_enter Try.func5, Try.ntmps5
  go_wp2_with fail
  (with_reducible refine (turncocklaw22_light.calls (2 * l.length + 2) A c l true _ HR.out hc HL.out).mono ?_); rintro e w1 ⟨rfl, q, rfl⟩
  go_wp2_with fail
  (with_reducible refine (wnewB _).mono ?_); rintro e w1 ⟨p, S0, rfl, hb⟩
  have HP := Aside0.mk (wa_start (⟨hb.k, hb.lo, (((Frm.refl _ w).drewN q).trans hb.f)⟩ : WB w w1 S0 p []))
  clear hb
  go_wp2
  generalize hm : w1.heap.size = m at *
  clear hm
  go_loopw [5] (fun v5 wr => ∃ (i : Nat) (S : Nat → Prop) (K : List KV) (L : List S98), v5 = .int .i64 (i : Nat) ∧ i ≤ l.length ∧ Aside0 (WA w wr S p m K L ∧ K.Perm (kvU L) ∧ L.length ≤ i)) (fun v5 _ => l.length - (intOf v5).toNat)
  case atStart => exact ⟨0, S0, [], [], rfl, Nat.zero_le _, ⟨HP.out, List.Perm.refl _, Nat.zero_le _⟩⟩
  case round =>
    clear HP
    obtain ⟨i, S, K, L, rfl, hi, HI⟩ := hrel
    by_cases hlt : i < l.length
    · obtain ⟨ad, rfl, c0, c1, c2, c3⟩ := at_T53 HR.out (i : Int) (by omega) (by omega)
      have hks := HS.out i hlt
      have e9 : rd_T53 l (i : Int) = l.getD i z53 := by unfold rd_T53; rw [Int.toNat_natCast]
      rw [e9, Int.toNat_natCast] at c0 c1 c2 c3
      obtain ⟨x, hx⟩ : ∃ x, x = l.getD i z53 := ⟨_, rfl⟩
      rw [← hx] at c0 c1 c2 c3 hks
      obtain ⟨kd, hkd⟩ : ∃ kd, kd = x.f0 := ⟨_, rfl⟩
      obtain ⟨k, hk⟩ : ∃ k, k = x.f1 := ⟨_, rfl⟩
      obtain ⟨t, ht⟩ : ∃ t, t = x.f2 := ⟨_, rfl⟩
      obtain ⟨mo, hmo⟩ : ∃ mo, mo = x.f3 := ⟨_, rfl⟩
      rw [← hkd] at c0
      rw [← hk] at c1 hks
      rw [← ht] at c2
      rw [← hmo] at c3
      have HKS := Lib.hid hks
      have g0 := HI.out.1.f.cell c0 (fun e => e)
      have g1 := HI.out.1.f.cell c1 (fun e => e)
      have g2 := HI.out.1.f.cell c2 (fun e => e)
      have g3 := HI.out.1.f.cell c3 (fun e => e)
      have HLK := Lib.hid (show L.length = K.length by rw [HI.out.2.1.length_eq]; unfold kvU; rw [List.length_map])
      clear e9 hx hkd hk ht hmo hks c0 c1 c2 c3
      go_upto_region 10 with (fail)
      obtain ⟨wx, hwx⟩ : ∃ wx, wx = wr.alloc (.cells #[.int .i64 kd, .string k, .int .i64 t, .int .i64 mo] 53) := ⟨_, rfl⟩
      rw [← hwx]
      obtain ⟨xb, hxb⟩ : ∃ xb, xb = wr.heap.size := ⟨_, rfl⟩
      rw [← hxb]
      have hx0 : wx.heap[xb]? = some (.cells #[.int .i64 kd, .string k, .int .i64 t, .int .i64 mo] 53 (0, 0)) := by rw [hwx, hxb]; exact blk_new _ _
      have HW : Aside0 (WA w wx S p m K L) := ⟨HI.out.1.movedN (by rw [hwx]; exact (Frm.refl _ wr).alloc _)⟩
      have HP := Lib.hid HI.out.2.1
      have HLI := Lib.hid HI.out.2.2
      have HX := Aside0.mk hx0
      have x0 : wx.cell? ⟨xb, 0, none⟩ = some (.int .i64 kd) := (blk_cell hx0 0).trans rfl
      have x1 : wx.cell? ⟨xb, 1, none⟩ = some (.string k) := (blk_cell hx0 1).trans rfl
      have x2 : wx.cell? ⟨xb, 2, none⟩ = some (.int .i64 t) := (blk_cell hx0 2).trans rfl
      have x3 : wx.cell? ⟨xb, 3, none⟩ = some (.int .i64 mo) := (blk_cell hx0 3).trans rfl
      have HKL := Lib.hid (show K.length < 9999 by have := HLK.out; have := HLI.out; omega)
      have HLL := Lib.hid (show L.length < 9999 by have := HLI.out; omega)
      clear hwx hxb hx0 g0 g1 g2 g3 HI
      by_cases hk0 : kd = 0
      · subst hk0
        go_wp2_with fail
        (with_reducible refine (HW.out.wput HX.out k HKS.out t HKL.out).mono ?_); rintro e w2 ⟨rfl, S2, h2, hx2⟩
        have HW2 := Aside0.mk h2
        have HX2 := Aside0.mk hx2
        have y1 : w2.cell? ⟨xb, 1, none⟩ = some (.string k) := (blk_cell hx2 1).trans rfl
        have y2 : w2.cell? ⟨xb, 2, none⟩ = some (.int .i64 t) := (blk_cell hx2 2).trans rfl
        clear h2 hx2 x0 x1 x2 x3
        go_wp2_with fail
        (with_reducible refine (HW2.out.rput HX2.out k t HLL.out).mono ?_); rintro e w3 ⟨rfl, h3, hx3⟩
        have HWc := Aside0.mk h3
        have HXc := Aside0.mk hx3
        have HPc := Lib.hid (putW_perm HW.out.k.nodup HP.out k t)
        have HLc := Lib.hid (show (putW L k t).length ≤ i + 1 by have := putW_len L k t; have := HLI.out; omega)
        clear h3 hx3 y1 y2 HW2 HX2 HW HX
        obtain ⟨K2, hK2⟩ : ∃ K2, K2 = dropK K k ++ [(k, t)] := ⟨_, rfl⟩
        obtain ⟨L2, hL2⟩ : ∃ L2, L2 = putW L k t := ⟨_, rfl⟩
        rw [← hK2, ← hL2] at HWc HPc
        rw [← hL2] at HLc
        clear hK2 hL2 HP HLI
        rename_i wc0
        obtain ⟨wc, hwc⟩ : ∃ wc, wc = w3 := ⟨_, rfl⟩
        rw [← hwc] at HWc HXc ⊢
        clear hwc
        have z1 : wc.cell? ⟨xb, 1, none⟩ = some (.string k) := (blk_cell HXc.out 1).trans rfl
        obtain ⟨a, t2, b, hnk⟩ := ex_next HWc.out.k
        have HNK := Lib.hid hnk
        have s1 : (a.toList != a.toList) = false := by simp
        have s2 : (t2 != t2) = false := by simp
        have s3 : (b != b) = false := by simp
        have s4 : (atK K2 k != atK K2 k) = false := by simp
        have s5 : (hasK K2 k != hasK K2 k) = false := by simp
        have s6 : ((L2.length : Int) != (L2.length : Int)) = false := by simp
        clear hnk
        go_wp2_with fail
        (with_reducible refine (HWc.out.wnext HXc.out HNK.out).mono ?_); rintro e wn ⟨rfl, hn, hxn⟩
        have HWn := Aside0.mk hn
        have HXn := Aside0.mk hxn
        clear hn hxn
        go_wp2_with fail
        (with_reducible refine (HWn.out.rnext HXn.out HPc.out HNK.out).mono ?_); rintro e wo ⟨rfl, ho, hxo⟩
        have HWo := Aside0.mk ho
        have z2 : wo.cell? ⟨xb, 1, none⟩ = some (.string k) := (blk_cell hxo 1).trans rfl
        have HXo := Aside0.mk hxo
        clear ho hxo z1
        go_wp2_with fail
        (with_reducible refine (HWo.out.wat k HKS.out).mono ?_); rintro e wq ⟨rfl, rfl⟩
        go_wp2_with fail
        (with_reducible refine (HWo.out.rat HXo.out HPc.out k).mono ?_); rintro e wq ⟨rfl, hq, hxq⟩
        have HWq := Aside0.mk hq
        obtain ⟨vL, hvL⟩ := hq.r
        obtain ⟨AL, cL, rfl⟩ := Kd.R_slice hvL.row
        have cm := hvL.c0
        clear hq hxq hvL z2
        go_wp2
        go_quiet (refine Calls.quiet_of_same ((WA.wlen (HWq.out.drewN _) HPc.out).mono fun e w' h => ⟨h.1, h.2.symm⟩))
        go_wp2
        go_roundw
        case rel => exact ⟨i + 1, S2, K2, L2, by go_num, by omega, ⟨HWq.out.drewN _, HPc.out, HLc.out⟩⟩
        case measure => simp [intOf]; omega
      · have t1 : (kd == 0) = false := by simpa using hk0
        by_cases hk1 : kd = 1
        · subst hk1
          go_upto_region 15 with (fail)
          go_cut [62] (fun v62 wc => v62 = .bool false ∧ ∃ S2 K2 L2, Aside0 (WA w wc S2 p m K2 L2) ∧ Aside0 (wc.heap[xb]? = some (.cells #[.int .i64 1, .string k, .int .i64 t, .int .i64 mo] 53 (0, 0))) ∧ Aside0 (K2.Perm (kvU L2)) ∧ Aside0 (L2.length ≤ i + 1))
          case first =>
            have HBB := Lib.hid (has_eq HP.out k)
            have u1 : (hasK K k != hasK K k) = false := by simp
            go_region_with (first | (go_at_call 29; refine (WA.wdrop (by first | exact HB.out | exact HB.out.drew | exact HW.out.drew | exact HW.out) (by first | exact HXb.out | exact HX.out) k HKS.out).mono ?_; rintro e w2 ⟨rfl, S2, h2, hx2⟩; have HA2 := Aside0.mk h2; have HXa := Aside0.mk hx2; have ya := (blk_cell hx2 1).trans (show (#[Value.int .i64 1, .string k, .int .i64 t, .int .i64 mo][1]? : Option Value) = some (.string k) from rfl); clear h2 hx2) | (go_at_call 30; refine (WA.rdropB (by first | exact HA2.out | exact HA2.out.drew | exact HW.out.drew | exact HW.out) (by first | exact HXa.out | exact HX.out) k HBB.out).mono ?_; rintro e w3 ⟨rfl, h3, hx3⟩; have HB := Aside0.mk h3; have HXb := Aside0.mk hx3; have yb := (blk_cell hx3 1).trans (show (#[Value.int .i64 1, .string k, .int .i64 t, .int .i64 mo][1]? : Option Value) = some (.string k) from rfl); clear h3 hx3))
            all_goals (go_wp2; go_meet)
            all_goals (case rel => first | exact ⟨rfl, _, _, _, HB, HXb, ⟨delL_perm HW.out.k.nodup HP.out k⟩, ⟨by have := delL_len L k; have := HLI.out; omega⟩⟩ | exact ⟨rfl, _, _, _, HA2, HXa, ⟨delL_perm HW.out.k.nodup HP.out k⟩, ⟨by have := delL_len L k; have := HLI.out; omega⟩⟩)
          case rest =>
            clear HW HX x0 x1 x2 x3 HP HLI
            obtain ⟨rfl, S2, K2, L2, HWc, HXc, HPc, HLc⟩ := hcut
            have z1 : wc.cell? ⟨xb, 1, none⟩ = some (.string k) := (blk_cell HXc.out 1).trans rfl
            obtain ⟨a, t2, b, hnk⟩ := ex_next HWc.out.k
            have HNK := Lib.hid hnk
            have s1 : (a.toList != a.toList) = false := by simp
            have s2 : (t2 != t2) = false := by simp
            have s3 : (b != b) = false := by simp
            have s4 : (atK K2 k != atK K2 k) = false := by simp
            have s5 : (hasK K2 k != hasK K2 k) = false := by simp
            have s6 : ((L2.length : Int) != (L2.length : Int)) = false := by simp
            clear hnk
            go_wp2_with fail
            (with_reducible refine (HWc.out.wnext HXc.out HNK.out).mono ?_); rintro e wn ⟨rfl, hn, hxn⟩
            have HWn := Aside0.mk hn
            have HXn := Aside0.mk hxn
            clear hn hxn
            go_wp2_with fail
            (with_reducible refine (HWn.out.rnext HXn.out HPc.out HNK.out).mono ?_); rintro e wo ⟨rfl, ho, hxo⟩
            have HWo := Aside0.mk ho
            have z2 : wo.cell? ⟨xb, 1, none⟩ = some (.string k) := (blk_cell hxo 1).trans rfl
            have HXo := Aside0.mk hxo
            clear ho hxo z1
            go_wp2_with fail
            (with_reducible refine (HWo.out.wat k HKS.out).mono ?_); rintro e wq ⟨rfl, rfl⟩
            go_wp2_with fail
            (with_reducible refine (HWo.out.rat HXo.out HPc.out k).mono ?_); rintro e wq ⟨rfl, hq, hxq⟩
            have HWq := Aside0.mk hq
            obtain ⟨vL, hvL⟩ := hq.r
            obtain ⟨AL, cL, rfl⟩ := Kd.R_slice hvL.row
            have cm := hvL.c0
            clear hq hxq hvL z2
            go_wp2
            go_quiet (refine Calls.quiet_of_same ((WA.wlen (HWq.out.drewN _) HPc.out).mono fun e w' h => ⟨h.1, h.2.symm⟩))
            go_wp2
            go_roundw
            case rel => exact ⟨i + 1, S2, K2, L2, by go_num, by omega, ⟨HWq.out.drewN _, HPc.out, HLc.out⟩⟩
            case measure => simp [intOf]; omega
        · have t2 : (kd == 1) = false := by simpa using hk1
          by_cases hk2 : kd = 2
          · subst hk2
            go_upto_region 18 with (fail)
            go_cut [78] (fun v78 wc => v78 = .bool false ∧ ∃ S2 K2 L2, Aside0 (WA w wc S2 p m K2 L2) ∧ Aside0 (wc.heap[xb]? = some (.cells #[.int .i64 2, .string k, .int .i64 t, .int .i64 mo] 53 (0, 0))) ∧ Aside0 (K2.Perm (kvU L2)) ∧ Aside0 (L2.length ≤ i + 1))
            case first =>
              obtain ⟨o, K1, hd⟩ := ex_dues t mo.toNat K
              have HD := Lib.hid hd
              have hol := Lib.hid (show o.length ≤ 1000000 by have := hd.len; have := HKL.out; omega)
              have HND := Lib.hid (kvU_nodup HW.out.k.nodup HP.out)
              have HSl := Lib.hid (fun b hb => HW.out.k.lt b hb)
              have HMl := Lib.hid HW.out.hm_lt
              clear hd
              go_region_with (first | (go_at_call 32; refine (WA.wdueD (by first | exact HB.out | exact HB.out.drew | exact HW.out.drew | exact HW.out) (by first | exact HXb.out | exact HX.out) HD.out).mono ?_; rintro e w2 ⟨A2, c2, S2, rfl, hr2, h2, hf2, hx2⟩; have HA2 := Aside0.mk h2; have HXa := Aside0.mk hx2; have HRa := Aside0.mk hr2; (try have HRb2 := Aside0.mk (rowS_frm (by first | exact HRb.out | exact Kd.R_drew HRb.out) hf2 HSl.out)); have ya := (blk_cell hx2 2).trans (show (#[Value.int .i64 2, .string k, .int .i64 t, .int .i64 mo][2]? : Option Value) = some (.int .i64 t) from rfl); have yb := (blk_cell hx2 3).trans (show (#[Value.int .i64 2, .string k, .int .i64 t, .int .i64 mo][3]? : Option Value) = some (.int .i64 mo) from rfl); clear h2 hx2 hr2 hf2) | (go_at_call 33; refine (WA.rdueD (by first | exact HA2.out | exact HA2.out.drew | exact HW.out.drew | exact HW.out) (by first | exact HXa.out | exact HX.out) HND.out HD.out HP.out).mono ?_; rintro e w3 ⟨A3, c3, L3, rfl, hr3, h3, hp3, hl3, hf3, hx3⟩; have HB := Aside0.mk h3; have HXb := Aside0.mk hx3; have HRb := Aside0.mk hr3; have HPb := Lib.hid hp3; have HLb := Lib.hid hl3; (try have HRa2 := Aside0.mk (rowS_frm (by first | exact HRa.out | exact Kd.R_drew HRa.out) hf3 (fun b e => by subst e; exact HMl.out))); have yc := (blk_cell hx3 2).trans (show (#[Value.int .i64 2, .string k, .int .i64 t, .int .i64 mo][2]? : Option Value) = some (.int .i64 t) from rfl); have yd := (blk_cell hx3 3).trans (show (#[Value.int .i64 2, .string k, .int .i64 t, .int .i64 mo][3]? : Option Value) = some (.int .i64 mo) from rfl); clear h3 hx3 hr3 hf3 hp3 hl3) | (go_at_call 31; refine (texts_same hol.out (by first | exact HRa2.out | exact HRa.out | exact Kd.R_drew HRa.out | exact Kd.R_drew HRa2.out) (by first | exact HRb2.out | exact HRb.out | exact Kd.R_drew HRb.out | exact Kd.R_drew HRb2.out)).mono ?_; rintro e w6 ⟨rfl, ⟨nq, rfl⟩⟩))
              all_goals (go_wp2; go_meet)
              all_goals (case rel => first | exact ⟨rfl, _, _, _, ⟨HB.out.drewN _⟩, HXb, ⟨HPb.out⟩, ⟨by have := HLb.out; have := HLI.out; omega⟩⟩ | exact ⟨rfl, _, _, _, ⟨HA2.out.drewN _⟩, HXa, ⟨HPb.out⟩, ⟨by have := HLb.out; have := HLI.out; omega⟩⟩)
            case rest =>
              clear HW HX x0 x1 x2 x3 HP HLI
              obtain ⟨rfl, S2, K2, L2, HWc, HXc, HPc, HLc⟩ := hcut
              have z1 : wc.cell? ⟨xb, 1, none⟩ = some (.string k) := (blk_cell HXc.out 1).trans rfl
              obtain ⟨a, t2, b, hnk⟩ := ex_next HWc.out.k
              have HNK := Lib.hid hnk
              have s1 : (a.toList != a.toList) = false := by simp
              have s2 : (t2 != t2) = false := by simp
              have s3 : (b != b) = false := by simp
              have s4 : (atK K2 k != atK K2 k) = false := by simp
              have s5 : (hasK K2 k != hasK K2 k) = false := by simp
              have s6 : ((L2.length : Int) != (L2.length : Int)) = false := by simp
              clear hnk
              go_wp2_with fail
              (with_reducible refine (HWc.out.wnext HXc.out HNK.out).mono ?_); rintro e wn ⟨rfl, hn, hxn⟩
              have HWn := Aside0.mk hn
              have HXn := Aside0.mk hxn
              clear hn hxn
              go_wp2_with fail
              (with_reducible refine (HWn.out.rnext HXn.out HPc.out HNK.out).mono ?_); rintro e wo ⟨rfl, ho, hxo⟩
              have HWo := Aside0.mk ho
              have z2 : wo.cell? ⟨xb, 1, none⟩ = some (.string k) := (blk_cell hxo 1).trans rfl
              have HXo := Aside0.mk hxo
              clear ho hxo z1
              go_wp2_with fail
              (with_reducible refine (HWo.out.wat k HKS.out).mono ?_); rintro e wq ⟨rfl, rfl⟩
              go_wp2_with fail
              (with_reducible refine (HWo.out.rat HXo.out HPc.out k).mono ?_); rintro e wq ⟨rfl, hq, hxq⟩
              have HWq := Aside0.mk hq
              obtain ⟨vL, hvL⟩ := hq.r
              obtain ⟨AL, cL, rfl⟩ := Kd.R_slice hvL.row
              have cm := hvL.c0
              clear hq hxq hvL z2
              go_wp2
              go_quiet (refine Calls.quiet_of_same ((WA.wlen (HWq.out.drewN _) HPc.out).mono fun e w' h => ⟨h.1, h.2.symm⟩))
              go_wp2
              go_roundw
              case rel => exact ⟨i + 1, S2, K2, L2, by go_num, by omega, ⟨HWq.out.drewN _, HPc.out, HLc.out⟩⟩
              case measure => simp [intOf]; omega
          · have t3 : (kd == 2) = false := by simpa using hk2
            clear hk0 hk1 hk2
            have HLc := Lib.hid (show L.length ≤ i + 1 by have := HLI.out; omega)
            obtain ⟨S2, hS2⟩ : ∃ S2, S2 = S := ⟨_, rfl⟩
            obtain ⟨K2, hK2⟩ : ∃ K2, K2 = K := ⟨_, rfl⟩
            obtain ⟨L2, hL2⟩ : ∃ L2, L2 = L := ⟨_, rfl⟩
            have HWc : Aside0 (WA w wx S2 p m K2 L2) := by rw [hS2, hK2, hL2]; exact HW
            have HPc : Aside0 (K2.Perm (kvU L2)) := ⟨by rw [hK2, hL2]; exact HP.out⟩
            rw [← hL2] at HLc
            have HXc := HX
            clear hS2 hK2 hL2 HW HX
            have z1 : wx.cell? ⟨xb, 1, none⟩ = some (.string k) := (blk_cell HXc.out 1).trans rfl
            obtain ⟨a, t2, b, hnk⟩ := ex_next HWc.out.k
            have HNK := Lib.hid hnk
            have s1 : (a.toList != a.toList) = false := by simp
            have s2 : (t2 != t2) = false := by simp
            have s3 : (b != b) = false := by simp
            have s4 : (atK K2 k != atK K2 k) = false := by simp
            have s5 : (hasK K2 k != hasK K2 k) = false := by simp
            have s6 : ((L2.length : Int) != (L2.length : Int)) = false := by simp
            clear hnk
            go_wp2_with fail
            (with_reducible refine (HWc.out.wnext HXc.out HNK.out).mono ?_); rintro e wn ⟨rfl, hn, hxn⟩
            have HWn := Aside0.mk hn
            have HXn := Aside0.mk hxn
            clear hn hxn
            go_wp2_with fail
            (with_reducible refine (HWn.out.rnext HXn.out HPc.out HNK.out).mono ?_); rintro e wo ⟨rfl, ho, hxo⟩
            have HWo := Aside0.mk ho
            have z2 : wo.cell? ⟨xb, 1, none⟩ = some (.string k) := (blk_cell hxo 1).trans rfl
            have HXo := Aside0.mk hxo
            clear ho hxo z1
            go_wp2_with fail
            (with_reducible refine (HWo.out.wat k HKS.out).mono ?_); rintro e wq ⟨rfl, rfl⟩
            go_wp2_with fail
            (with_reducible refine (HWo.out.rat HXo.out HPc.out k).mono ?_); rintro e wq ⟨rfl, hq, hxq⟩
            have HWq := Aside0.mk hq
            obtain ⟨vL, hvL⟩ := hq.r
            obtain ⟨AL, cL, rfl⟩ := Kd.R_slice hvL.row
            have cm := hvL.c0
            clear hq hxq hvL z2
            go_wp2
            go_quiet (refine Calls.quiet_of_same ((WA.wlen (HWq.out.drewN _) HPc.out).mono fun e w' h => ⟨h.1, h.2.symm⟩))
            go_wp2
            go_roundw
            case rel => exact ⟨i + 1, S2, K2, L2, by go_num, by omega, ⟨HWq.out.drewN _, HPc.out, HLc.out⟩⟩
            case measure => simp [intOf]; omega
    · obtain rfl : i = l.length := by omega
      have l1 : decide ((l.length : Int) < (l.length : Int)) = false := decide_eq_false (by omega)
      go_wp2_with fail
      (with_reducible refine (wawake_any _).mono ?_); rintro e w3 ⟨rfl, hf3⟩
      have HF3 := Aside0.mk (HI.out.1.f.trans hf3)
      clear hf3
      go_wp2
      go_ret
      exact ⟨rfl, HF3.out⟩
theorem wheelActs_calls (A : Option Addr) (c : Nat) (l : List S53) (w : World) (hr : Kd.C k53 w A l.length l) (hc : l.length ≤ c) (hm : l.length ≤ maxLen) :
    Calls Try.prog 5 #[.slice A l.length c] w fun e w' => e = .returned (.bool true) ∧ Below w.heap.size w w' := by
  have fin : ∀ {e : Ending} {w' : World}, (e = .returned (.bool true) ∧ Frm (fun _ => False) w w') → (e = .returned (.bool true) ∧ Below w.heap.size w w') := fun h => ⟨h.1, h.2.to_below⟩
  have hN : l.length ≤ 9223372036854775807 := by unfold maxLen at hm; omega
  obtain ⟨r, h1, h2⟩ := light_f l hN
  cases r with
  | false => exact (wa_out A c l w hr hc h1).mono fun e w' h => fin h
  | true => exact (wa_walk A c l w hr hc h1 (h2 rfl).1 (h2 rfl).2).mono fun e w' h => fin h
end Go.Proofs.Ytjgoddieamphpaa.Wh
