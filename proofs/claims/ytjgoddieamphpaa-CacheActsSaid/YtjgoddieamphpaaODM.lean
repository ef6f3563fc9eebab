/- A cache: part of the proof. -/
import Derived.Test.YtjgoddieamphpaaODL
import Derived.Deep.CutBlock
namespace Go.Proofs.Ytjgoddieamphpaa.Ca
open Go.RowKit Go.Sort Go.Proofs.YtjgoddieamphpaaW.PrintWords Go.Proofs.YtjgoddieamphpaaW.PrintLast Probe Go.Proofs.Ytjgoddieamphpaa.Obj Go.Proofs.Ytjgoddieamphpaa.PProbeActs
set_option maxRecDepth 100000
set_option linter.unusedVariables false
attribute [local go_sem ↓] Go.wp_at_zero Go.wp_at_succ
theorem CC.from_ {a b w : World} {cb pt bb pw most : Nat} {Sw : Nat → Prop} {L : List S98} (h : CC (a : Bs) w cb pt bb pw Sw most L) (f : Frm (fun _ => False) b a) : CC (b : Bs) w cb pt bb pw Sw most L := by
  have up : ∀ x, (a : Bs).lo x → (b : Bs).lo x := fun x hx => hx.elim (fun e => e.elim) (fun e => .inr (Nat.le_trans f.size e))
  exact ⟨h.hd, h.t, h.k, up _ h.lc, up _ h.lt, up _ h.lb, fun x hx => up x (h.ls x hx), f.trans h.f⟩
theorem pc_start {w a w1 : World} {cb pt bb pw most : Nat} {Sw : Nat → Prop} (h : CC (a : Bs) w1 cb pt bb pw Sw most []) (f : Frm (fun _ => False) w a) : PC w (w1.alloc (.cells #[.int .i64 most, .slice none 0 0] 83)) cb w1.heap.size most [] [] := by
  have h' := (h.from_ f).movedN ((Frm.refl (fun _ => False) w1).alloc (.cells #[.int .i64 most, .slice none 0 0] 83))
  exact ⟨pt, bb, pw, Sw, .slice none 0 0, h', ⟨blk_new _ _, Kd.R_nil _ _ _ _ _, by simp⟩, Nat.le_trans f.size h.f.size⟩
set_option maxHeartbeats 8000000 in
theorem ca_walk (n : Nat) (h1 : 1 ≤ n) (h60 : n ≤ 60) (A : Option Addr) (c : Nat) (l : List S85) (w : World) (hr : Kd.C k85 w A l.length l) (hc : l.length ≤ c) (hl : turncocklaw23_light.f (2 * l.length + 2) l = some true) (h150 : l.length ≤ 150) (hsz : ∀ q, q < l.length → (l.getD q z85).f1.size ≤ 100) :
    Calls Try.prog 11 #[.int .i64 (n : Int), .slice A l.length c] w fun e w' => e = .returned (.bool true) ∧ Frm (fun _ => False) w w' := by
  have HR := Aside0.mk hr
  have HL := Lib.hid hl
  have HS := Lib.hid hsz
  have HN1 := Lib.hid h1
  have HN2 := Lib.hid (show n ≤ 4096 by omega)
  have d1 : decide ((60 : Int) < (n : Int)) = false := decide_eq_false (by omega)
  have d1' : decide (60 < n) = false := decide_eq_false (by omega)
  have d2 : decide ((n : Int) < 1) = false := decide_eq_false (by omega)
  have d2' : decide (n < 1) = false := decide_eq_false (by omega)
  have d2'' : decide (n = 0) = false := decide_eq_false (by omega)
  clear hr hl hsz
  go_enter Try.func11, Try.ntmps11
  go_wp2_with fail
  (with_reducible refine (turncocklaw23_light.calls (2 * l.length + 2) A c l true _ HR.out hc HL.out).mono ?_); rintro e w1 ⟨rfl, q, rfl⟩
  go_wp2_with fail
  (with_reducible refine (cnew_any n HN1.out HN2.out _).mono ?_); rintro e w1 ⟨cb, pt, bb, pw, Sw, rfl, hcc⟩
  have HP := Aside0.mk (pc_start hcc ((Frm.refl _ w).drewN q))
  clear hcc
  go_wp2
  generalize hm : w1.heap.size = m at *
  clear hm
  go_loopw [8] (fun v8 wr => ∃ (i : Nat) (L M : List S98), v8 = .int .i64 (i : Nat) ∧ i ≤ l.length ∧ Aside0 (PC w wr cb m n L M ∧ L.Perm M)) (fun v8 _ => l.length - (intOf v8).toNat)
  case atStart => exact ⟨0, [], [], rfl, Nat.zero_le _, ⟨HP.out, List.Perm.refl _⟩⟩
  case round =>
    clear HP
    obtain ⟨i, L, M, rfl, hi, HI⟩ := hrel
    by_cases hlt : i < l.length
    · obtain ⟨ad, rfl, c0, c1, c2, c3, c4⟩ := at_T85 HR.out (i : Int) (by omega) (by omega)
      have hks := HS.out i hlt
      have e9 : rd_T85 l (i : Int) = l.getD i z85 := by unfold rd_T85; rw [Int.toNat_natCast]
      rw [e9, Int.toNat_natCast] at c0 c1 c2 c3 c4
      obtain ⟨x, hx⟩ : ∃ x, x = l.getD i z85 := ⟨_, rfl⟩
      rw [← hx] at c0 c1 c2 c3 c4 hks
      obtain ⟨kd, hkd⟩ : ∃ kd, kd = x.f0 := ⟨_, rfl⟩
      obtain ⟨k, hk⟩ : ∃ k, k = x.f1 := ⟨_, rfl⟩
      obtain ⟨hi2, hhi⟩ : ∃ hi2, hi2 = x.f2 := ⟨_, rfl⟩
      obtain ⟨un, hun⟩ : ∃ un, un = x.f3 := ⟨_, rfl⟩
      obtain ⟨t, ht⟩ : ∃ t, t = x.f4 := ⟨_, rfl⟩
      rw [← hkd] at c0
      rw [← hk] at c1 hks
      rw [← hhi] at c2
      rw [← hun] at c3
      rw [← ht] at c4
      have HKS := Lib.hid (show k.size ≤ 1000 by omega)
      have g0 := HI.out.1.f.cell c0 (fun e => e)
      have g1 := HI.out.1.f.cell c1 (fun e => e)
      have g2 := HI.out.1.f.cell c2 (fun e => e)
      have g3 := HI.out.1.f.cell c3 (fun e => e)
      have g4 := HI.out.1.f.cell c4 (fun e => e)
      clear e9 hx hkd hk ht hhi hun hks c0 c1 c2 c3 c4
      go_upto_region 13 with (fail)
      obtain ⟨wx, hwx⟩ : ∃ wx, wx = wr.alloc (.cells #[.int .i64 kd, .string k, .int .i64 hi2, .int .i64 un, .int .i64 t] 85) := ⟨_, rfl⟩
      rw [← hwx]
      obtain ⟨xb, hxb⟩ : ∃ xb, xb = wr.heap.size := ⟨_, rfl⟩
      rw [← hxb]
      have hx0 : XB wx xb #[.int .i64 kd, .string k, .int .i64 hi2, .int .i64 un, .int .i64 t] := by unfold XB; rw [hwx, hxb]; exact blk_new _ _
      have HW : Aside0 (PC w wx cb m n L M) := ⟨HI.out.1.movedN (by rw [hwx]; exact (Frm.refl _ wr).alloc _)⟩
      have HPM := Lib.hid HI.out.2
      have HX := Aside0.mk hx0
      have x0 : wx.cell? ⟨xb, 0, none⟩ = some (.int .i64 kd) := (blk_cell hx0 0).trans rfl
      have x1 : wx.cell? ⟨xb, 1, none⟩ = some (.string k) := (blk_cell hx0 1).trans rfl
      have x2 : wx.cell? ⟨xb, 2, none⟩ = some (.int .i64 hi2) := (blk_cell hx0 2).trans rfl
      have x3 : wx.cell? ⟨xb, 3, none⟩ = some (.int .i64 un) := (blk_cell hx0 3).trans rfl
      have x4 : wx.cell? ⟨xb, 4, none⟩ = some (.int .i64 t) := (blk_cell hx0 4).trans rfl
      clear hwx hxb hx0 g0 g1 g2 g3 g4 HI
      go_upto_block 2 with (fail)
      go_cut [9] from 59 to 155 (fun v9 wz => v9 = .pointer (some ⟨xb, 0, none⟩) ∧ ∃ L1 M1, Aside0 (PC w wz cb m n L1 M1) ∧ Aside0 (XB wz xb #[.int .i64 kd, .string k, .int .i64 hi2, .int .i64 un, .int .i64 t]) ∧ Aside0 (L1.Perm M1))
      case first =>
        by_cases hk0 : kd = 0
        · subst hk0
          obtain ⟨an, ac, L1, hadd⟩ := ex_added L n k hi2 un t
          have HA := Lib.hid hadd
          have HND := Lib.hid HW.out.nd
          have HLN := Lib.hid HW.out.len.1
          have s1 : (an != an) = false := by simp
          have s2 : (ac != ac) = false := by simp
          clear hadd
          go_wp2_with fail
          (with_reducible refine (HW.out.cadd HX.out HKS.out HA.out).mono ?_); rintro e w2 ⟨rfl, h2, hx2⟩
          have HW2 := Aside0.mk h2
          have HX2 := Aside0.mk hx2
          have y1 : w2.cell? ⟨xb, 1, none⟩ = some (.string k) := (blk_cell hx2 1).trans rfl
          have y2 : w2.cell? ⟨xb, 2, none⟩ = some (.int .i64 hi2) := (blk_cell hx2 2).trans rfl
          have y3 : w2.cell? ⟨xb, 3, none⟩ = some (.int .i64 un) := (blk_cell hx2 3).trans rfl
          have y4 : w2.cell? ⟨xb, 4, none⟩ = some (.int .i64 t) := (blk_cell hx2 4).trans rfl
          clear h2 hx2 x0 x1 x2 x3 x4
          go_wp2_with fail
          (with_reducible refine (HW2.out.radd HX2.out HPM.out HND.out HLN.out HA.out).mono ?_); rintro e w3 ⟨rfl, M1, h3, hp3, hx3⟩
          have HW3 := Aside0.mk h3
          have HX3 := Aside0.mk hx3
          have HP3 := Aside0.mk hp3
          clear h3 hx3 hp3 y1 y2 y3 y4
          go_wp2
          go_meet
          case rel => exact ⟨rfl, L1, M1, HW3, HX3, HP3⟩
        · have t1 : (kd == 0) = false := by simpa using hk0
          by_cases hk1 : kd = 1
          · subst hk1
            obtain ⟨o, K', hd⟩ := ex_dues t hi2.toNat (kvC L)
            have HD := Lib.hid hd
            have HND := Lib.hid HW.out.nd
            have s1 : ((o.length : Int) != (o.length : Int)) = false := by simp
            have s2 : ((o.length : Nat) != (o.length : Nat)) = false := by simp
            have HWd : Aside0 (PC w wx.drew cb m n L M) := ⟨HW.out.movedN ((Frm.refl _ wx).drew)⟩
            have HXd : Aside0 (XB wx.drew xb #[.int .i64 1, .string k, .int .i64 hi2, .int .i64 un, .int .i64 t]) := ⟨HX.out.movedN ((Frm.refl _ wx).drew)⟩
            clear hd
            go_upto_region 20 with (fail)
            go_region_held3 (fun w' => w'.cell? ⟨xb, 2, none⟩ = some (.int .i64 hi2) ∧ w'.cell? ⟨xb, 4, none⟩ = some (.int .i64 t)) (go_keep) (first | (go_at_call 54; refine (PC.csweep (by first | exact HB.out | exact HWd.out | exact HW.out) (by first | exact HXB.out | exact HXd.out | exact HX.out) HD.out).mono ?_; rintro e w2 ⟨rfl, h2, hx2⟩; have HA := Aside0.mk h2; have HXA := Aside0.mk hx2; have ya := (blk_cell hx2 2).trans (show (#[Value.int .i64 1, .string k, .int .i64 hi2, .int .i64 un, .int .i64 t][2]? : Option Value) = some (.int .i64 hi2) from rfl); have yb := (blk_cell hx2 4).trans (show (#[Value.int .i64 1, .string k, .int .i64 hi2, .int .i64 un, .int .i64 t][4]? : Option Value) = some (.int .i64 t) from rfl); clear h2 hx2) | (go_at_call 55; refine (PC.rsweep (by first | exact HA.out | exact HWd.out | exact HW.out) (by first | exact HXA.out | exact HXd.out | exact HX.out) HPM.out HND.out HD.out).mono ?_; rintro e w3 ⟨rfl, M1, h3, hp3, hx3⟩; have HB := Aside0.mk h3; have HXB := Aside0.mk hx3; have HPB := Aside0.mk hp3; have yc := (blk_cell hx3 2).trans (show (#[Value.int .i64 1, .string k, .int .i64 hi2, .int .i64 un, .int .i64 t][2]? : Option Value) = some (.int .i64 hi2) from rfl); have yd := (blk_cell hx3 4).trans (show (#[Value.int .i64 1, .string k, .int .i64 hi2, .int .i64 un, .int .i64 t][4]? : Option Value) = some (.int .i64 t) from rfl); clear h3 hx3 hp3))
            all_goals (go_wp2; go_meet)
            all_goals (case rel => first | exact ⟨rfl, _, _, HA, HXA, HPB⟩ | exact ⟨rfl, _, _, HB, HXB, HPB⟩)
          · have t2 : (kd == 1) = false := by simpa using hk1
            clear hk0 hk1
            go_wp2
            go_meet
            case rel => exact ⟨rfl, L, M, HW, HX, ⟨HPM.out⟩⟩
      case rest =>
        clear HW HX HPM x0 x1 x2 x3 x4
        obtain ⟨rfl, L1, M1, HW, HX, HPM⟩ := hcut
        obtain ⟨AL, cL, hv⟩ := HW.out.pv HX.out
        have hnd := HW.out.nd
        have hlen := HW.out.len
        have hpm := HPM.out
        have hpl := hpm.length_eq
        obtain ⟨pk, hpk⟩ : ∃ pk, peekC L1 k t = pk := ⟨_, rfl⟩
        obtain ⟨lv, hlv⟩ : ∃ lv, liveN L1 t = lv := ⟨_, rfl⟩
        obtain ⟨al, hal⟩ : ∃ al, allL L1 t = al := ⟨_, rfl⟩
        have P1 := Lib.hid hpk
        have P2 : Hid (peekC M1 k t = pk) := Lib.hid (by rw [← peek_perm hpm hnd]; exact hpk)
        have P3 := Lib.hid hlv
        have P4 : Hid (liveN M1 t = lv) := Lib.hid (by rw [← liveN_perm hpm]; exact hlv)
        have P5 := Lib.hid hal
        have P6 : Hid (allL M1 t = al) := Lib.hid (by rw [← allL_perm hpm hnd]; exact hal)
        have P7 := Lib.hid hpl
        have N1 := Lib.hid (perm_nodup hpm hnd)
        have N2 := Lib.hid (show M1.length ≤ 1000 by omega)
        have N3 : Hid (al.length ≤ 1000000) := Lib.hid (by
          have h1 : al.length ≤ (keysL L1).length := by rw [← hal]; unfold allL; rw [List.length_map]; exact List.length_filter_le _ _
          rw [keysL_len] at h1
          omega)
        have s1 : (pk != pk) = false := by simp
        have s2 : ((lv : Int) != (lv : Int)) = false := by simp
        have s3 : (lv != lv) = false := by simp
        have s4 : ((M1.length : Int) != (M1.length : Int)) = false := by simp
        have s5 : (M1.length != M1.length) = false := by simp
        have HV := Aside0.mk hv
        have HVd := Aside0.mk hv.drew
        have x1 : wc.cell? ⟨xb, 1, none⟩ = some (.string k) := (blk_cell hv.x 1).trans rfl
        have x4 : wc.cell? ⟨xb, 4, none⟩ = some (.int .i64 t) := (blk_cell hv.x 4).trans rfl
        have xm := hv.r.c1
        have HPM2 := Lib.hid hpm
        clear hpk hlv hal hnd hlen hpm hpl HPM hv HX HW
        go_upto_region 22 with (fail)
        go_region_held3 (fun w' => w'.cell? ⟨xb, 1, none⟩ = some (.string k) ∧ w'.cell? ⟨xb, 4, none⟩ = some (.int .i64 t) ∧ w'.cell? ⟨m, 1, none⟩ = some (.slice AL M1.length cL)) (go_keep) (first | (go_at_call 43; refine (PV.cpeek (by first | exact HVd.out | exact HV.out) HKS.out P1.out).mono ?_; rintro e w1 ⟨rfl, hv1⟩; have z1a := (blk_cell hv1.x 1).trans (show (#[.int .i64 kd, .string k, .int .i64 hi2, .int .i64 un, .int .i64 t][1]? : Option Value) = some (.string k) from rfl); have z1b := (blk_cell hv1.x 4).trans (show (#[.int .i64 kd, .string k, .int .i64 hi2, .int .i64 un, .int .i64 t][4]? : Option Value) = some (.int .i64 t) from rfl); have z1c := hv1.r.c1; have HV1 := Aside0.mk hv1; clear hv1) | (go_at_call 56; refine (PV.rpeek HV1.out N1.out P2.out).mono ?_; rintro e w2 ⟨rfl, hv2⟩; have z2a := (blk_cell hv2.x 1).trans (show (#[.int .i64 kd, .string k, .int .i64 hi2, .int .i64 un, .int .i64 t][1]? : Option Value) = some (.string k) from rfl); have z2b := (blk_cell hv2.x 4).trans (show (#[.int .i64 kd, .string k, .int .i64 hi2, .int .i64 un, .int .i64 t][4]? : Option Value) = some (.int .i64 t) from rfl); have z2c := hv2.r.c1; have HV2 := Aside0.mk hv2; clear hv2) | (go_at_call 44; refine (PV.clive HV2.out P3.out).mono ?_; rintro e w3 ⟨rfl, hv3⟩; have z3a := (blk_cell hv3.x 1).trans (show (#[.int .i64 kd, .string k, .int .i64 hi2, .int .i64 un, .int .i64 t][1]? : Option Value) = some (.string k) from rfl); have z3b := (blk_cell hv3.x 4).trans (show (#[.int .i64 kd, .string k, .int .i64 hi2, .int .i64 un, .int .i64 t][4]? : Option Value) = some (.int .i64 t) from rfl); have z3c := hv3.r.c1; have HV3 := Aside0.mk hv3; clear hv3) | (go_at_call 57; refine (PV.rlive HV3.out P4.out).mono ?_; rintro e w4 ⟨rfl, hv4⟩; have z4a := (blk_cell hv4.x 1).trans (show (#[.int .i64 kd, .string k, .int .i64 hi2, .int .i64 un, .int .i64 t][1]? : Option Value) = some (.string k) from rfl); have z4b := (blk_cell hv4.x 4).trans (show (#[.int .i64 kd, .string k, .int .i64 hi2, .int .i64 un, .int .i64 t][4]? : Option Value) = some (.int .i64 t) from rfl); have z4c := hv4.r.c1; have HV4 := Aside0.mk hv4; clear hv4) | (go_at_call 46; refine (PV.cheld HV4.out P7.out).mono ?_; rintro e w5 ⟨rfl, hv5⟩; have z5a := (blk_cell hv5.x 1).trans (show (#[.int .i64 kd, .string k, .int .i64 hi2, .int .i64 un, .int .i64 t][1]? : Option Value) = some (.string k) from rfl); have z5b := (blk_cell hv5.x 4).trans (show (#[.int .i64 kd, .string k, .int .i64 hi2, .int .i64 un, .int .i64 t][4]? : Option Value) = some (.int .i64 t) from rfl); have z5c := hv5.r.c1; have HV5 := Aside0.mk hv5; clear hv5) | (go_at_call 59; refine (PV.call HV5.out P5.out).mono ?_; rintro e w6 ⟨A6, c6, rfl, hr6, hv6, hf6⟩; have HR6 := Aside0.mk hr6; clear hr6 hf6; have z6a := (blk_cell hv6.x 1).trans (show (#[.int .i64 kd, .string k, .int .i64 hi2, .int .i64 un, .int .i64 t][1]? : Option Value) = some (.string k) from rfl); have z6b := (blk_cell hv6.x 4).trans (show (#[.int .i64 kd, .string k, .int .i64 hi2, .int .i64 un, .int .i64 t][4]? : Option Value) = some (.int .i64 t) from rfl); have z6c := hv6.r.c1; have HV6 := Aside0.mk hv6; clear hv6) | (go_at_call 60; refine (PV.rall HV6.out N1.out N2.out P6.out).mono ?_; rintro e w7 ⟨A7, c7, rfl, hr7, hv7, hf7⟩; have HR7 := Aside0.mk hr7; have HR6 := Aside0.mk (rowA HR6.out hf7); clear hr7 hf7; have z7a := (blk_cell hv7.x 1).trans (show (#[.int .i64 kd, .string k, .int .i64 hi2, .int .i64 un, .int .i64 t][1]? : Option Value) = some (.string k) from rfl); have z7b := (blk_cell hv7.x 4).trans (show (#[.int .i64 kd, .string k, .int .i64 hi2, .int .i64 un, .int .i64 t][4]? : Option Value) = some (.int .i64 t) from rfl); have z7c := hv7.r.c1; have HV7 := Aside0.mk hv7; clear hv7) | (go_at_call 58; refine (PV.same HV7.out N3.out HR6.out HR7.out).mono ?_; rintro e w8 ⟨rfl, hv8⟩; have z8a := (blk_cell hv8.x 1).trans (show (#[.int .i64 kd, .string k, .int .i64 hi2, .int .i64 un, .int .i64 t][1]? : Option Value) = some (.string k) from rfl); have z8b := (blk_cell hv8.x 4).trans (show (#[.int .i64 kd, .string k, .int .i64 hi2, .int .i64 un, .int .i64 t][4]? : Option Value) = some (.int .i64 t) from rfl); have z8c := hv8.r.c1; have HV8 := Aside0.mk hv8; clear hv8))
        go_wp2
        go_roundw
        case rel => exact ⟨i + 1, L1, M1, by go_num, by omega, ⟨HV8.out.pc, HPM2.out⟩⟩
        case measure => simp [intOf]; omega
    · obtain rfl : i = l.length := by omega
      have l1 : decide ((l.length : Int) < (l.length : Int)) = false := decide_eq_false (by omega)
      have HMO := Aside0.mk (show Calls Try.prog 61 #[.pointer (some ⟨cb, 0, none⟩)] wr fun e w' => e = .returned (.int .i64 (n : Nat)) ∧ wr = w' by obtain ⟨pt, b, pw, Sw, v, hcc, _⟩ := HI.out.1; exact hcc.most_)
      go_wp2_with fail
      (with_reducible refine HMO.out.mono ?_); rintro e w3 ⟨rfl, rfl⟩
      go_wp2_with fail
      (with_reducible refine (cawake_any _).mono ?_); rintro e w3 ⟨rfl, hf3⟩
      have HF3 := Aside0.mk (HI.out.1.f.trans hf3)
      clear hf3
      go_wp2
      go_ret
      exact ⟨rfl, HF3.out⟩
theorem cacheActs_calls (n : Int) (A : Option Addr) (c : Nat) (l : List S85) (w : World) (hr : Kd.C k85 w A l.length l) (hc : l.length ≤ c) (hm : l.length ≤ maxLen) :
    Calls Try.prog 11 #[.int .i64 n, .slice A l.length c] w fun e w' => e = .returned (.bool true) ∧ Below w.heap.size w w' := by
  have fin : ∀ {e : Ending} {w' : World}, (e = .returned (.bool true) ∧ Frm (fun _ => False) w w') → (e = .returned (.bool true) ∧ Below w.heap.size w w') := fun h => ⟨h.1, h.2.to_below⟩
  have hN : l.length ≤ 9223372036854775807 := by unfold maxLen at hm; omega
  obtain ⟨r, h1, h2⟩ := light_f l hN
  by_cases hb : r = false ∨ 60 < n
  · exact (ca_out n A c l w hr hc h1 hb).mono fun e w' h => fin h
  obtain rfl : r = true := by cases r; exact absurd (.inl rfl) hb; rfl
  by_cases h0 : n < 1
  · exact (ca_bad n A c l w hr hc h1 h0).mono fun e w' h => fin h
  obtain ⟨k, rfl⟩ : ∃ k : Nat, n = (k : Int) := ⟨n.toNat, by omega⟩
  have hk : ¬ (60 : Int) < (k : Int) := fun e => hb (.inr e)
  exact (ca_walk k (by omega) (by omega) A c l w hr hc h1 (h2 rfl).1 (h2 rfl).2).mono fun e w' h => fin h
end Go.Proofs.Ytjgoddieamphpaa.Ca
