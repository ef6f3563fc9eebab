/- A cache: part of the proof. -/
import Derived.Test.YtjgoddieamphpaaODN
import Derived.Deep.CutBlock
namespace Go.Proofs.Ytjgoddieamphpaa.Ca
open Go.RowKit Go.Sort Go.Proofs.YtjgoddieamphpaaW.PrintWords Go.Proofs.YtjgoddieamphpaaW.PrintLast Probe Go.Proofs.Ytjgoddieamphpaa.Obj Go.Proofs.Ytjgoddieamphpaa.PProbeActs
set_option maxRecDepth 100000
set_option linter.unusedVariables false
attribute [local go_sem ↓] Go.wp_at_zero Go.wp_at_succ
theorem cw_out (n : Int) (A : Option Addr) (c : Nat) (l : List S85) (B : Option Addr) (d s : Nat) (w : World) (hr : Kd.C k85 w A l.length l) (hc : l.length ≤ c) {r : Bool} (hl : turncocklaw23_light.f (2 * l.length + 2) l = some r) (h : r = false ∨ n < 1 ∨ 40 < n ∨ 200 < s) :
    Calls Try.prog 12 #[.int .i64 n, .slice A l.length c, .slice B s d] w fun e w' => e = .returned (.bool true) ∧ Frm (fun _ => False) w w' := by
  have HR := Aside0.mk hr
  have HL := Lib.hid hl
  clear hr hl
  cases r with
  | false =>
    clear h
    go_enter Try.func12, Try.ntmps12
    go_wp2_with fail
    (with_reducible refine (turncocklaw23_light.calls (2 * l.length + 2) A c l false _ HR.out hc HL.out).mono ?_); rintro e w1 ⟨rfl, q, rfl⟩
    go_wp2_with fail
    (with_reducible refine (cawake_any _).mono ?_); rintro e w3 ⟨rfl, hf3⟩
    have HF3 := Aside0.mk hf3
    clear hf3
    go_wp2
    go_ret
    exact ⟨rfl, ((Frm.refl _ w).drewN q).trans HF3.out⟩
  | true =>
    by_cases h1 : n < 1
    · have d1 : decide (n < 1) = true := decide_eq_true h1
      clear h h1
      go_enter Try.func12, Try.ntmps12
      go_wp2_with fail
      (with_reducible refine (turncocklaw23_light.calls (2 * l.length + 2) A c l true _ HR.out hc HL.out).mono ?_); rintro e w1 ⟨rfl, q, rfl⟩
      go_wp2_with fail
      (with_reducible refine (cawake_any _).mono ?_); rintro e w3 ⟨rfl, hf3⟩
      have HF3 := Aside0.mk hf3
      clear hf3
      go_wp2
      go_ret
      exact ⟨rfl, ((Frm.refl _ w).drewN q).trans HF3.out⟩
    have d1 : decide (n < 1) = false := decide_eq_false h1
    by_cases h2 : 40 < n
    · have d2 : decide (40 < n) = true := decide_eq_true h2
      clear h h1 h2
      go_enter Try.func12, Try.ntmps12
      go_wp2_with fail
      (with_reducible refine (turncocklaw23_light.calls (2 * l.length + 2) A c l true _ HR.out hc HL.out).mono ?_); rintro e w1 ⟨rfl, q, rfl⟩
      go_wp2_with fail
      (with_reducible refine (cawake_any _).mono ?_); rintro e w3 ⟨rfl, hf3⟩
      have HF3 := Aside0.mk hf3
      clear hf3
      go_wp2
      go_ret
      exact ⟨rfl, ((Frm.refl _ w).drewN q).trans HF3.out⟩
    have d2 : decide (40 < n) = false := decide_eq_false h2
    have h3 : 200 < s := by
      rcases h with h | h | h | h
      · cases h
      · exact absurd h h1
      · exact absurd h h2
      · exact h
    have d3 : decide ((200 : Int) < (s : Int)) = true := decide_eq_true (by omega)
    have d3' : decide (200 < s) = true := decide_eq_true h3
    clear h h1 h2 h3
    go_enter Try.func12, Try.ntmps12
    go_wp2_with fail
    (with_reducible refine (turncocklaw23_light.calls (2 * l.length + 2) A c l true _ HR.out hc HL.out).mono ?_); rintro e w1 ⟨rfl, q, rfl⟩
    go_wp2_with fail
    (with_reducible refine (cawake_any _).mono ?_); rintro e w3 ⟨rfl, hf3⟩
    have HF3 := Aside0.mk hf3
    clear hf3
    go_wp2
    go_ret
    exact ⟨rfl, ((Frm.refl _ w).drewN q).trans HF3.out⟩
set_option maxHeartbeats 8000000 in
theorem cw_walk (n : Nat) (h1 : 1 ≤ n) (h40 : n ≤ 40) (A : Option Addr) (c : Nat) (l : List S85) (B : Option Addr) (d : Nat) (s : List Int) (w : World) (hr : Kd.C k85 w A l.length l) (hc : l.length ≤ c) (hrs : Kd.C (Kd.int .i64) w B s.length s) (hds : s.length ≤ d) (hs2 : s.length ≤ 200) (hl : turncocklaw23_light.f (2 * l.length + 2) l = some true) (h150 : l.length ≤ 150) (hsz : ∀ q, q < l.length → (l.getD q z85).f1.size ≤ 100) :
    Calls Try.prog 12 #[.int .i64 (n : Int), .slice A l.length c, .slice B s.length d] w fun e w' => e = .returned (.bool true) ∧ Frm (fun _ => False) w w' := by
  have HR := Aside0.mk hr
  have HRS := Aside0.mk hrs
  have HL := Lib.hid hl
  have HS := Lib.hid hsz
  have HN1 := Lib.hid h1
  have HN2 := Lib.hid (show n ≤ 4096 by omega)
  have d1 : decide ((40 : Int) < (n : Int)) = false := decide_eq_false (by omega)
  have d1' : decide (40 < n) = false := decide_eq_false (by omega)
  have d2 : decide ((n : Int) < 1) = false := decide_eq_false (by omega)
  have d2' : decide (n < 1) = false := decide_eq_false (by omega)
  have d2'' : decide (n = 0) = false := decide_eq_false (by omega)
  have d3 : decide ((200 : Int) < (s.length : Int)) = false := decide_eq_false (by omega)
  have d3' : decide (200 < s.length) = false := decide_eq_false (by omega)
  clear hr hl hsz hrs
  go_enter Try.func12, Try.ntmps12
  go_wp2_with fail
  (with_reducible refine (turncocklaw23_light.calls (2 * l.length + 2) A c l true _ HR.out hc HL.out).mono ?_); rintro e w1 ⟨rfl, q, rfl⟩
  go_wp2_with fail
  (with_reducible refine (cnew_any n HN1.out HN2.out _).mono ?_); rintro e w1 ⟨ca, p1, b1, q1, S1, rfl, hcc⟩
  have HC1 := Aside0.mk hcc
  clear hcc
  go_wp2_with fail
  (with_reducible refine (cnew_any n HN1.out HN2.out _).mono ?_); rintro e w2 ⟨cb, p2, b2, q2, S2, rfl, hcc⟩
  have HP := Aside0.mk (tc_start ((Frm.refl _ w).drewN q) HC1.out hcc)
  clear hcc HC1
  go_wp2
  go_loopw [11, 12] (fun v11 v12 wr => ∃ (i : Nat) (now : Int) (L M : List S98), v12 = .int .i64 (i : Nat) ∧ v11 = .int .i64 now ∧ i ≤ l.length ∧ Aside0 (TC w wr ca cb n L M ∧ LV L M now ∧ 0 ≤ now ∧ now ≤ 4611686018427387904)) (fun _ v12 _ => l.length - (intOf v12).toNat)
  case atStart => exact ⟨0, 0, [], [], rfl, rfl, Nat.zero_le _, ⟨HP.out, List.Perm.refl _, by omega, by omega⟩⟩
  case round =>
    clear HP
    obtain ⟨i, now, L, M, rfl, rfl, hi, HI⟩ := hrel
    by_cases hlt : i < l.length
    · obtain ⟨ad, rfl, c0, c1, c2, c3, c4⟩ := at_T85 HR.out (i : Int) (by omega) (by omega)
      have hks := HS.out i hlt
      have e9 : rd_T85 l (i : Int) = l.getD i z85 := by unfold rd_T85; rw [Int.toNat_natCast]
      rw [e9, Int.toNat_natCast] at c0 c1 c2 c3 c4
      obtain ⟨x, hx⟩ : ∃ x, x = l.getD i z85 := ⟨_, rfl⟩
      rw [← hx] at c0 c1 c2 c3 c4 hks
      obtain ⟨kd, hkd⟩ : ∃ kd, kd = x.f0 := ⟨_, rfl⟩
      obtain ⟨k, hk⟩ : ∃ k, k = x.f1 := ⟨_, rfl⟩
      obtain ⟨hi2, hhi⟩ : ∃ hi2, hi2 = x.f2 := ⟨_, rfl⟩
      obtain ⟨un, hun⟩ : ∃ un, un = x.f3 := ⟨_, rfl⟩
      obtain ⟨t, ht⟩ : ∃ t, t = x.f4 := ⟨_, rfl⟩
      rw [← hkd] at c0
      rw [← hk] at c1 hks
      rw [← hhi] at c2
      rw [← hun] at c3
      rw [← ht] at c4
      have HKS := Lib.hid (show k.size ≤ 1000 by omega)
      have g0 := HI.out.1.f.cell c0 (fun e => e)
      have g1 := HI.out.1.f.cell c1 (fun e => e)
      have g2 := HI.out.1.f.cell c2 (fun e => e)
      have g3 := HI.out.1.f.cell c3 (fun e => e)
      have g4 := HI.out.1.f.cell c4 (fun e => e)
      clear e9 hx hkd hk ht hhi hun hks c0 c1 c2 c3 c4
      go_upto_region 12 with (fail)
      obtain ⟨wx, hwx⟩ : ∃ wx, wx = wr.alloc (.cells #[.int .i64 kd, .string k, .int .i64 hi2, .int .i64 un, .int .i64 t] 85) := ⟨_, rfl⟩
      rw [← hwx]
      obtain ⟨xb, hxb⟩ : ∃ xb, xb = wr.heap.size := ⟨_, rfl⟩
      rw [← hxb]
      have hx0 : XB wx xb #[.int .i64 kd, .string k, .int .i64 hi2, .int .i64 un, .int .i64 t] := by unfold XB; rw [hwx, hxb]; exact blk_new _ _
      have HW : Aside0 (TC w wx ca cb n L M) := ⟨HI.out.1.movedN (by rw [hwx]; exact (Frm.refl _ wr).alloc _)⟩
      have HX := Aside0.mk hx0
      have x1 : wx.cell? ⟨xb, 1, none⟩ = some (.string k) := (blk_cell hx0 1).trans rfl
      have x2 : wx.cell? ⟨xb, 2, none⟩ = some (.int .i64 hi2) := (blk_cell hx0 2).trans rfl
      have x3 : wx.cell? ⟨xb, 3, none⟩ = some (.int .i64 un) := (blk_cell hx0 3).trans rfl
      have x4 : wx.cell? ⟨xb, 4, none⟩ = some (.int .i64 t) := (blk_cell hx0 4).trans rfl
      have hge := nadd_ge (y := t) HI.out.2.2.1 HI.out.2.2.2
      have CR : Aside0 (∀ w, Calls Try.prog 42 #[.int .i64 now, .int .i64 t] w fun e w' => e = .returned (.int .i64 (nadd now t)) ∧ w = w') := ⟨radd_any now t⟩
      obtain ⟨nw, hnw⟩ : ∃ nw, nw = nadd now t := ⟨_, rfl⟩
      rw [← hnw] at hge CR
      have HG := Lib.hid hge
      have HLV := Aside0.mk (HI.out.2.1.later hge.1)
      clear hwx hxb hx0 g0 g1 g2 g3 g4 HI hge hnw
      obtain ⟨an, ac, L1, hadd⟩ := ex_added L n k hi2 un nw
      obtain ⟨an', ac', M1, hadd'⟩ := ex_added M n k hi2 un nw
      obtain ⟨rfl, rfl, hlv1⟩ := HLV.out.add HW.out.nd.1 HW.out.nd.2 hadd hadd'
      have HA := Lib.hid hadd
      have HA' := Lib.hid hadd'
      have HLV := Aside0.mk hlv1
      clear hadd hadd' hlv1
      have s1 : (an != an) = false := by simp
      have s2 : (ac != ac) = false := by simp
      go_wp2_with fail
      (with_reducible refine (CR.out _).mono ?_); rintro e w2 ⟨rfl, rfl⟩
      go_wp2_with fail
      (with_reducible refine (HW.out.add1 HX.out HKS.out HA.out).mono ?_); rintro e w2 ⟨rfl, h2, hx2⟩
      have HW2 := Aside0.mk h2
      have HX2 := Aside0.mk hx2
      have y1 : w2.cell? ⟨xb, 1, none⟩ = some (.string k) := (blk_cell hx2 1).trans rfl
      have y2 : w2.cell? ⟨xb, 2, none⟩ = some (.int .i64 hi2) := (blk_cell hx2 2).trans rfl
      have y3 : w2.cell? ⟨xb, 3, none⟩ = some (.int .i64 un) := (blk_cell hx2 3).trans rfl
      clear h2 hx2 x1 x2 x3 x4 HW HX
      go_wp2_with fail
      (with_reducible refine (HW2.out.add2 HX2.out HKS.out HA'.out).mono ?_); rintro e w3 ⟨rfl, h3, hx3⟩
      have HV := Aside0.mk h3
      have HX := Aside0.mk hx3
      have hlv := HLV.out
      obtain ⟨hnd, hnm⟩ := h3.nd
      have hlen := h3.len
      obtain ⟨pk, hpk⟩ : ∃ pk, peekC L1 k nw = pk := ⟨_, rfl⟩
      obtain ⟨lv, hlv2⟩ : ∃ lv, liveN L1 nw = lv := ⟨_, rfl⟩
      obtain ⟨al, hal⟩ : ∃ al, allL L1 nw = al := ⟨_, rfl⟩
      have P1 := Lib.hid hpk
      have P2 : Hid (peekC M1 k nw = pk) := Lib.hid (by rw [← hlv.peek hnd hnm]; exact hpk)
      have P3 := Lib.hid hlv2
      have P4 : Hid (liveN M1 nw = lv) := Lib.hid (by rw [← hlv.n]; exact hlv2)
      have P5 := Lib.hid hal
      have P6 : Hid (allL M1 nw = al) := Lib.hid (by rw [← hlv.all hnd hnm]; exact hal)
      have N1 := Lib.hid hnm
      have N3 : Hid (al.length ≤ 1000000) := Lib.hid (by
        have h1 : al.length ≤ (keysL L1).length := by rw [← hal]; unfold allL; rw [List.length_map]; exact List.length_filter_le _ _
        rw [keysL_len] at h1
        omega)
      have t1 : (pk != pk) = false := by simp
      have t2 : ((lv : Int) != (lv : Int)) = false := by simp
      have t3 : (lv != lv) = false := by simp
      have HVd := Aside0.mk (h3.movedN ((Frm.refl _ w3).drew))
      have HXd : Aside0 (XB w3.drew xb #[.int .i64 kd, .string k, .int .i64 hi2, .int .i64 un, .int .i64 t]) := ⟨hx3.movedN ((Frm.refl _ w3).drew)⟩
      have x1 : w3.cell? ⟨xb, 1, none⟩ = some (.string k) := (blk_cell hx3 1).trans rfl
      clear hpk hlv2 hal hnd hnm hlen hlv h3 hx3 y1 y2 y3 HW2 HX2 HA HA'
      go_upto_region 15 with (fail)
      go_region_held3 (fun w' => w'.cell? ⟨xb, 1, none⟩ = some (.string k)) (go_keep) (first | (go_at_call_of 44 ca; refine (TC.live1 (by first | exact HVd.out | exact HV.out) P3.out).mono ?_; rintro e w1 ⟨rfl, rfl⟩) | (go_at_call_of 44 cb; refine (TC.live2 (by first | exact HVd.out | exact HV.out) P4.out).mono ?_; rintro e w2 ⟨rfl, rfl⟩) | (go_at_call_of 43 ca; refine (TC.peek1 (by first | exact HVd.out | exact HV.out) HKS.out P1.out).mono ?_; rintro e w1 ⟨rfl, rfl⟩) | (go_at_call_of 43 cb; refine (TC.peek2 (by first | exact HVd.out | exact HV.out) HKS.out P2.out).mono ?_; rintro e w2 ⟨rfl, rfl⟩) | (go_at_call_of 59 ca; refine (TC.all1 (by first | exact HVd.out | exact HV.out) (by first | exact HXd.out | exact HX.out) P5.out).mono ?_; rintro e w3 ⟨A3, c3, rfl, hr3, hv3, hx3, hf3⟩; have HR3 := Aside0.mk hr3; clear hr3 hf3; have z3 := (blk_cell hx3 1).trans (show (#[.int .i64 kd, .string k, .int .i64 hi2, .int .i64 un, .int .i64 t][1]? : Option Value) = some (.string k) from rfl); have HX3 := Aside0.mk hx3; have HV3 := Aside0.mk hv3; clear hx3 hv3) | (go_at_call_of 59 cb; refine (TC.all2 HV3.out HX3.out P6.out).mono ?_; rintro e w4 ⟨A4, c4, rfl, hr4, hv4, hx4, hf4⟩; have HR4 := Aside0.mk hr4; have HR3 := Aside0.mk (rowA HR3.out hf4); clear hr4 hf4; have z4 := (blk_cell hx4 1).trans (show (#[.int .i64 kd, .string k, .int .i64 hi2, .int .i64 un, .int .i64 t][1]? : Option Value) = some (.string k) from rfl); have HX4 := Aside0.mk hx4; have HV4 := Aside0.mk hv4; clear hx4 hv4) | (go_at_call 58; refine (TC.same HV4.out HX4.out N3.out HR3.out HR4.out).mono ?_; rintro e w5 ⟨rfl, hv5, hx5⟩; have z5 := (blk_cell hx5 1).trans (show (#[.int .i64 kd, .string k, .int .i64 hi2, .int .i64 un, .int .i64 t][1]? : Option Value) = some (.string k) from rfl); have HX5 := Aside0.mk hx5; have HV5 := Aside0.mk hv5; clear hx5 hv5))
      go_upto_region 17 with (fail)
      by_cases hb : i < s.length
      · have b1 : decide ((i : Int) < (s.length : Int)) = true := decide_eq_true (by omega)
        have b2 : decide (i < s.length) = true := decide_eq_true hb
        obtain ⟨sd, rfl, qs⟩ := ints_at HRS.out i hb
        have qs := HV5.out.f.cell qs (fun e => e)
        obtain ⟨bx, hbx⟩ : ∃ bx, bx = intC s i := ⟨_, rfl⟩
        rw [← hbx] at qs
        clear hbx
        go_wp2_with fail
        (with_reducible refine (HV5.out.sweep2 HX5.out nw bx).mono ?_); rintro e w9 ⟨o, K', rfl, hd, h9, hx9⟩
        have HV9 := Aside0.mk h9
        have HLV9 := Aside0.mk (HLV.out.sweep N1.out hd)
        clear h9 hx9 hd
        go_wp2
        go_roundw
        case rel => exact ⟨i + 1, nw, L1, _, by go_num, rfl, by omega, ⟨HV9.out, HLV9.out, HG.out.2.1, HG.out.2.2⟩⟩
        case measure => simp [intOf]; omega
      · have b1 : decide ((i : Int) < (s.length : Int)) = false := decide_eq_false (by omega)
        have b2 : decide (i < s.length) = false := decide_eq_false hb
        go_wp2
        go_roundw
        case rel => exact ⟨i + 1, nw, L1, M1, by go_num, rfl, by omega, ⟨HV5.out, HLV.out, HG.out.2.1, HG.out.2.2⟩⟩
        case measure => simp [intOf]; omega
    · obtain rfl : i = l.length := by omega
      have l1 : decide ((l.length : Int) < (l.length : Int)) = false := decide_eq_false (by omega)
      go_wp2_with fail
      (with_reducible refine (cawake_any _).mono ?_); rintro e w3 ⟨rfl, hf3⟩
      have HF3 := Aside0.mk (HI.out.1.f.trans hf3)
      clear hf3
      go_wp2
      go_ret
      exact ⟨rfl, HF3.out⟩
theorem cacheSweeps_calls (n : Int) (A : Option Addr) (c : Nat) (l : List S85) (B : Option Addr) (d : Nat) (s : List Int) (w : World) (hr : Kd.C k85 w A l.length l) (hc : l.length ≤ c) (hm : l.length ≤ maxLen) (hrs : Kd.C (Kd.int .i64) w B s.length s) (hds : s.length ≤ d) :
    Calls Try.prog 12 #[.int .i64 n, .slice A l.length c, .slice B s.length d] w fun e w' => e = .returned (.bool true) ∧ Below w.heap.size w w' := by
  have fin : ∀ {e : Ending} {w' : World}, (e = .returned (.bool true) ∧ Frm (fun _ => False) w w') → (e = .returned (.bool true) ∧ Below w.heap.size w w') := fun h => ⟨h.1, h.2.to_below⟩
  have hN : l.length ≤ 9223372036854775807 := by unfold maxLen at hm; omega
  obtain ⟨r, h1, h2⟩ := light_f l hN
  by_cases hb : r = false ∨ n < 1 ∨ 40 < n ∨ 200 < s.length
  · exact (cw_out n A c l B d s.length w hr hc h1 hb).mono fun e w' h => fin h
  obtain rfl : r = true := by cases r; exact absurd (.inl rfl) hb; rfl
  have hb' : ¬ (n < 1 ∨ 40 < n ∨ 200 < s.length) := fun e => hb (.inr e)
  obtain ⟨k, rfl⟩ : ∃ k : Nat, n = (k : Int) := ⟨n.toNat, by omega⟩
  exact (cw_walk k (by omega) (by omega) A c l B d s w hr hc hrs hds (by omega) h1 (h2 rfl).1 (h2 rfl).2).mono fun e w' h => fin h
end Go.Proofs.Ytjgoddieamphpaa.Ca
