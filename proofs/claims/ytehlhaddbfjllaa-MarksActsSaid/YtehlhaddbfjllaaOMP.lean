/- Maps of texts to numbers, and what counts in them: a part of the proof. -/
import Derived.Test.YtehlhaddbfjllaaOMO
import Derived.Deep.RegionHeld3
namespace Go.Proofs.Ytehlhaddbfjllaa.Mp
open Go.RowKit Go.Sort Go.Proofs.YtehlhaddbfjllaaW.PrintWords Go.Proofs.YtehlhaddbfjllaaW.PrintLast Go.Proofs.YtehlhaddbfjllaaW.PrintMore Go.Proofs.Ytehlhaddbfjllaa.PMarksActs
set_option maxRecDepth 100000
set_option linter.unusedVariables false
attribute [local go_sem ↓] Go.wp_at_zero Go.wp_at_succ
theorem ma_out (n : Int) (A : Option Addr) (c : Nat) (l : List S30) (w : World) (hr : Kd.C k30 w A l.length l) (hc : l.length ≤ c) (hl : turncocklaw24_light.f (2 * l.length + 2) l = some false) :
    Calls Try.prog 3 #[.int .i64 n, .slice A l.length c] w fun e w' => e = .returned (.bool true) ∧ Frm (fun _ => False) w w' := by
  have HR := Aside0.mk hr
  have HL := Lib.hid hl
  clear hr hl
  go_enter Try.func3, Try.ntmps3
  go_wp2_with fail
  (with_reducible refine (turncocklaw24_light.calls (2 * l.length + 2) A c l false _ HR.out hc HL.out).mono ?_); rintro e w1 ⟨rfl, q, rfl⟩
  go_wp2_with fail
  (with_reducible refine (mawake_any _).mono ?_); rintro e w3 ⟨rfl, hf3⟩
  have HF3 := Aside0.mk hf3
  clear hf3
  go_wp2
  go_ret
  exact ⟨rfl, ((Frm.refl _ w).drewN q).trans HF3.out⟩
theorem sm_start {w0 a w1 : World} {p mb most : Nat} (f : Frm (fun _ => False) w0 a) (h : MK a w1 p mb most []) : SM w0 (w1.alloc (.cells #[.int .i64 (most : Int), .slice none 0 0] 34)) p mb w1.heap.size most [] := by
  have f2 := (Frm.refl (fun _ => False) w1).alloc (.cells #[.int .i64 (most : Int), .slice none 0 0] 34)
  have h2 : MK w0 w1 p mb most [] := ⟨h.hd, h.m, h.few, h.big, h.sm, Nat.le_trans f.size h.lp, Nat.le_trans f.size h.lm, f.trans h.f⟩
  exact ⟨h2.movedN f2, none, 0, [], ⟨blk_new _ _, Kd.R_nil _ _ _ _ _, Nat.zero_le _, h.big, h2.f.size, h2.f.trans f2⟩, List.Perm.refl _⟩
set_option maxHeartbeats 8000000 in
theorem ma_walk (n : Int) (A : Option Addr) (c : Nat) (l : List S30) (w : World) (hr : Kd.C k30 w A l.length l) (hc : l.length ≤ c) (hl : turncocklaw24_light.f (2 * l.length + 2) l = some true) (h200 : l.length ≤ 200) (hsz : ∀ q, q < l.length → (l.getD q z30).f1.size ≤ 100) :
    Calls Try.prog 3 #[.int .i64 n, .slice A l.length c] w fun e w' => e = .returned (.bool true) ∧ Frm (fun _ => False) w w' := by
  have HR := Aside0.mk hr
  have HL := Lib.hid hl
  have HS := Lib.hid hsz
  obtain ⟨most, hmost⟩ : ∃ most, most = mostOf n := ⟨_, rfl⟩
  have HNW : Aside0 (∀ w, Calls Try.prog 12 #[.int .i64 n] w fun e w' => ∃ p mb, e = .returned (.pointer (some ⟨p, 0, none⟩)) ∧ MK w w' p mb most []) := ⟨fun w => by rw [hmost]; exact mnew_any n w⟩
  have HDW := Aside0.mk (dnew_any n hmost)
  clear hr hl hsz hmost
  go_enter Try.func3, Try.ntmps3
  go_wp2_with fail
  (with_reducible refine (turncocklaw24_light.calls (2 * l.length + 2) A c l true _ HR.out hc HL.out).mono ?_); rintro e w1 ⟨rfl, q, rfl⟩
  go_wp2_with fail
  (with_reducible refine (HNW.out _).mono ?_); rintro e w1 ⟨p, mb, rfl, h1⟩
  have HP := Aside0.mk (sm_start ((Frm.refl (fun _ => False) w).drewN q) h1)
  clear h1 HNW
  go_wp2_with fail
  (with_reducible refine (HDW.out _).mono ?_); rintro e w2 ⟨rfl, rfl⟩
  obtain ⟨wz, hwz⟩ : ∃ wz, wz = w1.alloc (.cells #[.int .i64 (most : Int), .slice none 0 0] 34) := ⟨_, rfl⟩
  rw [← hwz] at HP ⊢
  obtain ⟨r, hr0⟩ : ∃ r, r = w1.heap.size := ⟨_, rfl⟩
  rw [← hr0] at HP ⊢
  clear hwz hr0 HDW
  go_wp2
  go_loopw [7] (fun v7 wr => ∃ (i : Nat) (K : List KV), v7 = .int .i64 (i : Nat) ∧ i ≤ l.length ∧ Aside0 (SM w wr p mb r most K)) (fun v7 _ => l.length - (intOf v7).toNat)
  case atStart => exact ⟨0, [], rfl, Nat.zero_le _, HP⟩
  case round =>
    clear HP
    obtain ⟨i, K, rfl, hi, HI⟩ := hrel
    by_cases hlt : i < l.length
    · obtain ⟨ad, hadp, p0, p1, p2, p3⟩ := at_T30 HR.out ((i : Nat) : Int) (by omega) (by omega)
      have er1 : rd_T30 l ((i : Nat) : Int) = l.getD i z30 := by unfold rd_T30; rw [Int.toNat_natCast]
      rw [er1, Int.toNat_natCast] at p0 p1 p2 p3
      subst hadp
      have HS1 := Lib.hid (HS.out i hlt)
      clear er1
      obtain ⟨x, hx⟩ : ∃ x, x = l.getD i z30 := ⟨_, rfl⟩
      rw [← hx] at p0 p1 p2 p3 HS1
      clear hx
      obtain ⟨x0, x1, x2, x3⟩ := x
      have HS1 := Lib.hid (show x1.size ≤ 100 from HS1.out)
      simp only at p0 p1 p2 p3
      have p0 := HI.out.s.f.cell p0 (fun e => e)
      have p1 := HI.out.s.f.cell p1 (fun e => e)
      have p2 := HI.out.s.f.cell p2 (fun e => e)
      have p3 := HI.out.s.f.cell p3 (fun e => e)
      go_upto_region 10 with (fail)
      have hx0 := blk_new wr (.cells #[.int .i64 x0, .string x1, .int .i64 x2, .int .i64 x3] 30)
      have HW : Aside0 (SM w (wr.alloc (.cells #[.int .i64 x0, .string x1, .int .i64 x2, .int .i64 x3] 30)) p mb r most K) := ⟨HI.out.movedN ((Frm.refl _ wr).alloc _)⟩
      obtain ⟨wx, hwx⟩ : ∃ wx, wx = wr.alloc (.cells #[.int .i64 x0, .string x1, .int .i64 x2, .int .i64 x3] 30) := ⟨_, rfl⟩
      obtain ⟨xb, hxb⟩ : ∃ xb, xb = wr.heap.size := ⟨_, rfl⟩
      rw [← hwx] at hx0 HW ⊢
      rw [← hxb] at hx0 ⊢
      have HX := Aside0.mk hx0
      clear hwx hxb p0 p1 p2 p3 HI
      have y0 := (blk_cell hx0 0).trans (show (#[.int .i64 x0, .string x1, .int .i64 x2, .int .i64 x3][0]? : Option Value) = some (.int .i64 x0) from rfl); have y1 := (blk_cell hx0 1).trans (show (#[.int .i64 x0, .string x1, .int .i64 x2, .int .i64 x3][1]? : Option Value) = some (.string x1) from rfl); have y2 := (blk_cell hx0 2).trans (show (#[.int .i64 x0, .string x1, .int .i64 x2, .int .i64 x3][2]? : Option Value) = some (.int .i64 x2) from rfl); have y3 := (blk_cell hx0 3).trans (show (#[.int .i64 x0, .string x1, .int .i64 x2, .int .i64 x3][3]? : Option Value) = some (.int .i64 x3) from rfl)
      clear hx0
      by_cases hk0 : x0 = 0
      · subst hk0
        go_wp2_with fail
        (with_reducible refine (HW.out.put x1 (by have := HS1.out; omega) x2 x3).mono ?_); rintro e w4 ⟨rfl, h4, f4⟩
        have H4 := Aside0.mk h4
        have hx4 := HW.out.s.keep f4 HX.out
        have HX4 := Aside0.mk hx4
        clear h4 f4 y0 y1 y2 y3 HW HX
        have z0 := (blk_cell hx4 0).trans (show (#[.int .i64 0, .string x1, .int .i64 x2, .int .i64 x3][0]? : Option Value) = some (.int .i64 0) from rfl); have z1 := (blk_cell hx4 1).trans (show (#[.int .i64 0, .string x1, .int .i64 x2, .int .i64 x3][1]? : Option Value) = some (.string x1) from rfl); have z2 := (blk_cell hx4 2).trans (show (#[.int .i64 0, .string x1, .int .i64 x2, .int .i64 x3][2]? : Option Value) = some (.int .i64 x2) from rfl); have z3 := (blk_cell hx4 3).trans (show (#[.int .i64 0, .string x1, .int .i64 x2, .int .i64 x3][3]? : Option Value) = some (.int .i64 x3) from rfl)
        clear hx4
        go_wp2_with fail
        (with_reducible refine H4.out.put.mono ?_); rintro e w5 ⟨rfl, ⟨K', h5⟩, k5⟩
        have H5 := Aside0.mk h5
        have HX5 : Aside0 (w5.heap[xb]? = some (.cells #[.int .i64 0, .string x1, .int .i64 x2, .int .i64 x3] 30 (0, 0))) := ⟨k5 xb _ HX4.out (fun cs t f e => by injection e with _ e2; subst e2; decide)⟩
        clear h5 k5 z0 z1 z2 z3 H4 HX4
        go_upto_region 17 with (fail)
        obtain ⟨A9, c9, q9⟩ := H5.out.row
        have HD9 := Aside0.mk (H5.out.movedN ((Frm.refl _ w5).drew))
        have hxd : w5.drew.heap[xb]? = some (.cells #[.int .i64 0, .string x1, .int .i64 x2, .int .i64 x3] 30 (0, 0)) := HX5.out
        have HXD := Aside0.mk hxd
        have b9 : ((K'.length : Int) == (K'.length : Int)) = true := by simp
        clear hxd
        go_region_held3 (fun w' => w'.cell? ⟨r, 1, none⟩ = some (.slice A9 K'.length c9)) (go_keep) (first | (go_at_call 17; (with_reducible refine (SM.len HD9.out).mono ?_); rintro e w8 ⟨rfl, rfl⟩))
        generalize w5.drew = wi at *
        clear q9
        go_wp2
        go_loopw [9] (fun v9 wr => ∃ j : Nat, v9 = .int .i64 (j : Nat) ∧ j ≤ i + 1 ∧ Aside0 (SM w wr p mb r most K') ∧ Aside0 (wr.heap[xb]? = some (.cells #[.int .i64 0, .string x1, .int .i64 x2, .int .i64 x3] 30 (0, 0)))) (fun v9 _ => i + 1 - (intOf v9).toNat)
        case atStart => exact ⟨0, rfl, Nat.zero_le _, HD9, HXD⟩
        case round =>
          clear HD9 HXD
          obtain ⟨j, rfl, hj, HJ, HXJ⟩ := hrel
          by_cases hji : j ≤ i
          · obtain ⟨adk, hadk, k0, k1, k2, k3⟩ := at_T30 HR.out ((j : Nat) : Int) (by omega) (by omega)
            have er2 : rd_T30 l ((j : Nat) : Int) = l.getD j z30 := by unfold rd_T30; rw [Int.toNat_natCast]
            rw [er2, Int.toNat_natCast] at k1
            obtain rfl := Option.some.inj hadk
            have hks := HS.out j (by omega)
            generalize (l.getD j z30).f1 = kk at *
            have k1 := HJ.out.s.f.cell k1 (fun e => e)
            have hxj := HXJ.out
            have t3 := (blk_cell hxj 3).trans (show (#[.int .i64 0, .string x1, .int .i64 x2, .int .i64 x3][3]? : Option Value) = some (.int .i64 x3) from rfl)
            obtain ⟨bv, hbv⟩ : ∃ bv, bv = (hasK K' kk && decide (x3 < getK K' kk)) := ⟨_, rfl⟩
            have HJd := Aside0.mk (HJ.out.movedN ((Frm.refl _ wr).drew))
            have C8 := Aside0.mk (HJd.out.has kk (by omega) x3)
            have C9 := Aside0.mk (HJd.out.dhas kk x3)
            rw [← hbv] at C8 C9
            have HXd2 : Aside0 (wr.drew.heap[xb]? = some (.cells #[.int .i64 0, .string x1, .int .i64 x2, .int .i64 x3] 30 (0, 0))) := ⟨hxj⟩
            have b8 : (bv == bv) = true := by simp
            have le1 : decide ((j : Int) ≤ (i : Int)) = true := decide_eq_true (by omega)
            have ix1 : (0 : Int) ≤ (j : Int) := by omega
            have ix2 : (j : Int) < (l.length : Int) := by omega
            have le2 : decide (j ≤ i) = true := decide_eq_true hji
            clear hbv hadk k0 k2 k3 er2 hxj
            go_upto_region 22 with (fail)
            go_region_held3 (fun w' => w'.cell? ⟨(ad.add (j * 4)).block, (ad.add (j * 4)).off + 1, none⟩ = some (.string kk) ∧ w'.cell? ⟨xb, 3, none⟩ = some (.int .i64 x3)) (go_keep) (first | (go_at_call 18; (with_reducible refine C8.out.mono ?_); rintro e w8 ⟨rfl, rfl⟩) | (go_at_call 19; (with_reducible refine C9.out.mono ?_); rintro e w9 ⟨rfl, f9⟩; have H9 := Aside0.mk (HJd.out.movedN f9); have HX9 := Aside0.mk (f9.blk HXd2.out (fun e => e)); have m1 := f9.cell k1 (fun e => e); have m3 := f9.cell t3 (fun e => e); clear f9))
            go_wp2
            go_roundw
            case rel => exact ⟨j + 1, by go_num, by omega, H9, HX9⟩
            case measure => simp [intOf]; omega
          · have le1 : decide ((j : Int) ≤ (i : Int)) = false := decide_eq_false (by omega)
            have le2 : decide (j ≤ i) = false := decide_eq_false hji
            go_wp2
            go_roundw
            case rel => exact ⟨i + 1, K', by go_num, by omega, HJ⟩
            case measure => simp [intOf]; omega
      · by_cases hk1 : x0 = 1
        · subst hk1
          go_wp2_with fail
          (with_reducible refine HW.out.clear.mono ?_); rintro e w4 ⟨rfl, hs4, ⟨A4, c4, L4, hd4⟩, f4⟩
          have hx4 := HW.out.s.keep f4 HX.out
          have cq := hd4.c1
          have fz := blk_frozen hd4.hd 1
          have hsm := sm_cleared hs4 hd4
          obtain ⟨K5, hK5⟩ : ∃ K5 : List KV, K5 = [] := ⟨_, rfl⟩
          rw [← hK5] at hsm
          have H5 := Aside0.mk hsm.1
          have HX5 : Aside0 ((w4.setCell ⟨r, 1, none⟩ (.slice none 0 0)).heap[xb]? = some (.cells #[.int .i64 1, .string x1, .int .i64 x2, .int .i64 x3] 30 (0, 0))) := ⟨hsm.2 xb _ hx4 (fun cs t f e => by injection e with _ e2; subst e2; decide)⟩
          clear hs4 hd4 f4 hx4 hsm hK5 y0 y1 y2 y3 HW HX
          go_upto_region 17 with (fail)
          generalize w4.setCell ⟨r, 1, none⟩ (.slice none 0 0) = w5 at *
          clear cq fz
          obtain ⟨A9, c9, q9⟩ := H5.out.row
          have HD9 := Aside0.mk (H5.out.movedN ((Frm.refl _ w5).drew))
          have hxd : w5.drew.heap[xb]? = some (.cells #[.int .i64 1, .string x1, .int .i64 x2, .int .i64 x3] 30 (0, 0)) := HX5.out
          have HXD := Aside0.mk hxd
          have b9 : ((K5.length : Int) == (K5.length : Int)) = true := by simp
          clear hxd
          go_region_held3 (fun w' => w'.cell? ⟨r, 1, none⟩ = some (.slice A9 K5.length c9)) (go_keep) (first | (go_at_call 17; (with_reducible refine (SM.len HD9.out).mono ?_); rintro e w8 ⟨rfl, rfl⟩))
          generalize w5.drew = wi at *
          clear q9
          go_wp2
          go_loopw [9] (fun v9 wr => ∃ j : Nat, v9 = .int .i64 (j : Nat) ∧ j ≤ i + 1 ∧ Aside0 (SM w wr p mb r most K5) ∧ Aside0 (wr.heap[xb]? = some (.cells #[.int .i64 1, .string x1, .int .i64 x2, .int .i64 x3] 30 (0, 0)))) (fun v9 _ => i + 1 - (intOf v9).toNat)
          case atStart => exact ⟨0, rfl, Nat.zero_le _, HD9, HXD⟩
          case round =>
            clear HD9 HXD
            obtain ⟨j, rfl, hj, HJ, HXJ⟩ := hrel
            by_cases hji : j ≤ i
            · obtain ⟨adk, hadk, k0, k1, k2, k3⟩ := at_T30 HR.out ((j : Nat) : Int) (by omega) (by omega)
              have er2 : rd_T30 l ((j : Nat) : Int) = l.getD j z30 := by unfold rd_T30; rw [Int.toNat_natCast]
              rw [er2, Int.toNat_natCast] at k1
              obtain rfl := Option.some.inj hadk
              have hks := HS.out j (by omega)
              generalize (l.getD j z30).f1 = kk at *
              have k1 := HJ.out.s.f.cell k1 (fun e => e)
              have hxj := HXJ.out
              have t3 := (blk_cell hxj 3).trans (show (#[.int .i64 1, .string x1, .int .i64 x2, .int .i64 x3][3]? : Option Value) = some (.int .i64 x3) from rfl)
              obtain ⟨bv, hbv⟩ : ∃ bv, bv = (hasK K5 kk && decide (x3 < getK K5 kk)) := ⟨_, rfl⟩
              have HJd := Aside0.mk (HJ.out.movedN ((Frm.refl _ wr).drew))
              have C8 := Aside0.mk (HJd.out.has kk (by omega) x3)
              have C9 := Aside0.mk (HJd.out.dhas kk x3)
              rw [← hbv] at C8 C9
              have HXd2 : Aside0 (wr.drew.heap[xb]? = some (.cells #[.int .i64 1, .string x1, .int .i64 x2, .int .i64 x3] 30 (0, 0))) := ⟨hxj⟩
              have b8 : (bv == bv) = true := by simp
              have le1 : decide ((j : Int) ≤ (i : Int)) = true := decide_eq_true (by omega)
              have ix1 : (0 : Int) ≤ (j : Int) := by omega
              have ix2 : (j : Int) < (l.length : Int) := by omega
              have le2 : decide (j ≤ i) = true := decide_eq_true hji
              clear hbv hadk k0 k2 k3 er2 hxj
              go_upto_region 22 with (fail)
              go_region_held3 (fun w' => w'.cell? ⟨(ad.add (j * 4)).block, (ad.add (j * 4)).off + 1, none⟩ = some (.string kk) ∧ w'.cell? ⟨xb, 3, none⟩ = some (.int .i64 x3)) (go_keep) (first | (go_at_call 18; (with_reducible refine C8.out.mono ?_); rintro e w8 ⟨rfl, rfl⟩) | (go_at_call 19; (with_reducible refine C9.out.mono ?_); rintro e w9 ⟨rfl, f9⟩; have H9 := Aside0.mk (HJd.out.movedN f9); have HX9 := Aside0.mk (f9.blk HXd2.out (fun e => e)); have m1 := f9.cell k1 (fun e => e); have m3 := f9.cell t3 (fun e => e); clear f9))
              go_wp2
              go_roundw
              case rel => exact ⟨j + 1, by go_num, by omega, H9, HX9⟩
              case measure => simp [intOf]; omega
            · have le1 : decide ((j : Int) ≤ (i : Int)) = false := decide_eq_false (by omega)
              have le2 : decide (j ≤ i) = false := decide_eq_false hji
              go_wp2
              go_roundw
              case rel => exact ⟨i + 1, K5, by go_num, by omega, HJ⟩
              case measure => simp [intOf]; omega
        · have b0 : (x0 == 0) = false := by simpa using hk0
          have b1 : (x0 == 1) = false := by simpa using hk1
          clear hk0 hk1
          go_upto_region 17 with (fail)
          obtain ⟨A9, c9, q9⟩ := HW.out.row
          have HD9 := Aside0.mk (HW.out.movedN ((Frm.refl _ wx).drew))
          have hxd : wx.drew.heap[xb]? = some (.cells #[.int .i64 x0, .string x1, .int .i64 x2, .int .i64 x3] 30 (0, 0)) := HX.out
          have HXD := Aside0.mk hxd
          have b9 : ((K.length : Int) == (K.length : Int)) = true := by simp
          clear hxd
          go_region_held3 (fun w' => w'.cell? ⟨r, 1, none⟩ = some (.slice A9 K.length c9)) (go_keep) (first | (go_at_call 17; (with_reducible refine (SM.len HD9.out).mono ?_); rintro e w8 ⟨rfl, rfl⟩))
          generalize wx.drew = wi at *
          clear q9
          go_wp2
          go_loopw [9] (fun v9 wr => ∃ j : Nat, v9 = .int .i64 (j : Nat) ∧ j ≤ i + 1 ∧ Aside0 (SM w wr p mb r most K) ∧ Aside0 (wr.heap[xb]? = some (.cells #[.int .i64 x0, .string x1, .int .i64 x2, .int .i64 x3] 30 (0, 0)))) (fun v9 _ => i + 1 - (intOf v9).toNat)
          case atStart => exact ⟨0, rfl, Nat.zero_le _, HD9, HXD⟩
          case round =>
            clear HD9 HXD
            obtain ⟨j, rfl, hj, HJ, HXJ⟩ := hrel
            by_cases hji : j ≤ i
            · obtain ⟨adk, hadk, k0, k1, k2, k3⟩ := at_T30 HR.out ((j : Nat) : Int) (by omega) (by omega)
              have er2 : rd_T30 l ((j : Nat) : Int) = l.getD j z30 := by unfold rd_T30; rw [Int.toNat_natCast]
              rw [er2, Int.toNat_natCast] at k1
              obtain rfl := Option.some.inj hadk
              have hks := HS.out j (by omega)
              generalize (l.getD j z30).f1 = kk at *
              have k1 := HJ.out.s.f.cell k1 (fun e => e)
              have hxj := HXJ.out
              have t3 := (blk_cell hxj 3).trans (show (#[.int .i64 x0, .string x1, .int .i64 x2, .int .i64 x3][3]? : Option Value) = some (.int .i64 x3) from rfl)
              obtain ⟨bv, hbv⟩ : ∃ bv, bv = (hasK K kk && decide (x3 < getK K kk)) := ⟨_, rfl⟩
              have HJd := Aside0.mk (HJ.out.movedN ((Frm.refl _ wr).drew))
              have C8 := Aside0.mk (HJd.out.has kk (by omega) x3)
              have C9 := Aside0.mk (HJd.out.dhas kk x3)
              rw [← hbv] at C8 C9
              have HXd2 : Aside0 (wr.drew.heap[xb]? = some (.cells #[.int .i64 x0, .string x1, .int .i64 x2, .int .i64 x3] 30 (0, 0))) := ⟨hxj⟩
              have b8 : (bv == bv) = true := by simp
              have le1 : decide ((j : Int) ≤ (i : Int)) = true := decide_eq_true (by omega)
              have ix1 : (0 : Int) ≤ (j : Int) := by omega
              have ix2 : (j : Int) < (l.length : Int) := by omega
              have le2 : decide (j ≤ i) = true := decide_eq_true hji
              clear hbv hadk k0 k2 k3 er2 hxj
              go_upto_region 22 with (fail)
              go_region_held3 (fun w' => w'.cell? ⟨(ad.add (j * 4)).block, (ad.add (j * 4)).off + 1, none⟩ = some (.string kk) ∧ w'.cell? ⟨xb, 3, none⟩ = some (.int .i64 x3)) (go_keep) (first | (go_at_call 18; (with_reducible refine C8.out.mono ?_); rintro e w8 ⟨rfl, rfl⟩) | (go_at_call 19; (with_reducible refine C9.out.mono ?_); rintro e w9 ⟨rfl, f9⟩; have H9 := Aside0.mk (HJd.out.movedN f9); have HX9 := Aside0.mk (f9.blk HXd2.out (fun e => e)); have m1 := f9.cell k1 (fun e => e); have m3 := f9.cell t3 (fun e => e); clear f9))
              go_wp2
              go_roundw
              case rel => exact ⟨j + 1, by go_num, by omega, H9, HX9⟩
              case measure => simp [intOf]; omega
            · have le1 : decide ((j : Int) ≤ (i : Int)) = false := decide_eq_false (by omega)
              have le2 : decide (j ≤ i) = false := decide_eq_false hji
              go_wp2
              go_roundw
              case rel => exact ⟨i + 1, K, by go_num, by omega, HJ⟩
              case measure => simp [intOf]; omega
    · obtain rfl : i = l.length := by omega
      have l1 : decide ((l.length : Int) < (l.length : Int)) = false := decide_eq_false (by omega)
      go_wp2_with fail
      (with_reducible refine (mawake_any _).mono ?_); rintro e w3 ⟨rfl, hf3⟩
      have HF3 := Aside0.mk (HI.out.s.f.trans hf3)
      clear hf3
      go_wp2
      go_ret
      exact ⟨rfl, HF3.out⟩
theorem marksActs_calls (n : Int) (A : Option Addr) (c : Nat) (l : List S30) (w : World) (hr : Kd.C k30 w A l.length l) (hc : l.length ≤ c) (hm : l.length ≤ maxLen) :
    Calls Try.prog 3 #[.int .i64 n, .slice A l.length c] w fun e w' => e = .returned (.bool true) ∧ Below w.heap.size w w' := by
  obtain ⟨b, h1, h2⟩ := mlight_f l (by unfold maxLen at hm; omega)
  cases b with
  | false => exact (ma_out n A c l w hr hc h1).mono fun e w' h => ⟨h.1, h.2.to_below⟩
  | true => exact (ma_walk n A c l w hr hc h1 (h2 rfl).1 (h2 rfl).2).mono fun e w' h => ⟨h.1, h.2.to_below⟩
end Go.Proofs.Ytehlhaddbfjllaa.Mp
