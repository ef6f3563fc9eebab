/- Maps of texts to numbers, and what counts in them: a part of the proof. -/
import Derived.Test.YtehlhaddbfjllaaOSM
import Derived.Test.YtehlhaddbfjllaaOSH
import Derived.Deep.CutBlock
import Derived.Deep.RegionHeld3
namespace Go.Proofs.Ytehlhaddbfjllaa.Mp
open Go.RowKit Go.Sort Go.Proofs.YtehlhaddbfjllaaW.PrintWords Go.Proofs.YtehlhaddbfjllaaW.PrintLast Go.Proofs.YtehlhaddbfjllaaW.PrintMore Go.Proofs.Ytehlhaddbfjllaa.PStatActs
set_option maxRecDepth 100000
set_option linter.unusedVariables false
attribute [local go_sem ↓] Go.wp_at_zero Go.wp_at_succ
theorem sn_out (A : Option Addr) (c : Nat) (l : List S51) (pt : ByteArray) (lc : Bool) (w : World) (h : 100 < l.length ∨ 100 < pt.size) :
    Calls Try.prog 7 #[.slice A l.length c, .string pt, .bool lc] w fun e w' => e = .returned (.bool true) ∧ Frm (fun _ => False) w w' := by
  by_cases h1 : 100 < l.length
  · have d1 : decide (100 < l.length) = true := decide_eq_true h1
    have d2 : decide ((100 : Int) < (l.length : Int)) = true := decide_eq_true (by omega)
    clear h h1
    go_enter Try.func7, Try.ntmps7
    go_wp2_with fail
    (with_reducible refine (awake_any _).mono ?_); rintro e w3 ⟨rfl, hf3⟩
    have HF3 := Aside0.mk hf3
    clear hf3
    go_wp2
    go_ret
    exact ⟨rfl, HF3.out⟩
  · have h2 : 100 < pt.size := by omega
    have d1 : decide (100 < l.length) = false := decide_eq_false h1
    have d2 : decide ((100 : Int) < (l.length : Int)) = false := decide_eq_false (by omega)
    have d3 : decide (100 < pt.size) = true := decide_eq_true h2
    have d4 : decide ((100 : Int) < (pt.size : Int)) = true := decide_eq_true (by omega)
    clear h h1 h2
    go_enter Try.func7, Try.ntmps7
    go_wp2_with fail
    (with_reducible refine (awake_any _).mono ?_); rintro e w3 ⟨rfl, hf3⟩
    have HF3 := Aside0.mk hf3
    clear hf3
    go_wp2
    go_ret
    exact ⟨rfl, HF3.out⟩
theorem okv_at {l : List S51} (h : ∀ q, q < l.length → okv (l.getD q z51)) : ∀ v ∈ l, okv v := by
  intro v hv
  obtain ⟨q, hq, rfl⟩ := List.getElem_of_mem hv
  have := h q hq
  rw [List.getD_eq_getElem?_getD, List.getElem?_eq_getElem hq] at this
  exact this
theorem okv_take {l : List S51} {i : Nat} (hi : i ≤ l.length) (h : ∀ q, q < i → okv (l.getD q z51)) : ∀ v ∈ l.take i, okv v := by
  intro v hv
  obtain ⟨q, hq, rfl⟩ := List.getElem_of_mem hv
  rw [List.length_take] at hq
  have := h q (by omega)
  rw [List.getD_eq_getElem?_getD, List.getElem?_eq_getElem (by omega)] at this
  rw [List.getElem_take]
  exact this
set_option maxHeartbeats 4000000 in
theorem sn_walk (A : Option Addr) (c : Nat) (l : List S51) (pt : ByteArray) (lc : Bool) (w : World) (hr : Kd.C k51 w A l.length l) (hc : l.length ≤ c) (h100 : l.length ≤ 100) (hp : pt.size ≤ 100) :
    Calls Try.prog 7 #[.slice A l.length c, .string pt, .bool lc] w fun e w' => e = .returned (.bool true) ∧ Frm (fun _ => False) w w' := by
  have HR := Aside0.mk hr
  have d1 : decide (100 < l.length) = false := decide_eq_false (by omega)
  have d2 : decide ((100 : Int) < (l.length : Int)) = false := decide_eq_false (by omega)
  have d3 : decide (100 < pt.size) = false := decide_eq_false (by omega)
  have d4 : decide ((100 : Int) < (pt.size : Int)) = false := decide_eq_false (by omega)
  clear hr
  go_enter Try.func7, Try.ntmps7
  go_wp2_with fail
  (with_reducible refine (snew_any _).mono ?_); rintro e w1 ⟨p, mb, rfl, h1⟩
  have HP := Aside0.mk h1
  clear h1
  go_wp2
  go_loopw [8, 9] (fun v8 v9 wr => ∃ i : Nat, v9 = .int .i64 (i : Nat) ∧ v8 = .int .i64 (sumV (l.take i)) ∧ i ≤ l.length ∧ (∀ q, q < i → okv (l.getD q z51)) ∧ Aside0 (SI w wr p mb (addsK [] ((l.take i).flatMap fun v => noteA pt v lc)))) (fun v8 v9 _ => l.length - (intOf v9).toNat)
  case atStart => exact ⟨0, rfl, rfl, Nat.zero_le _, fun q hq => absurd hq (Nat.not_lt_zero _), HP⟩
  case round =>
    clear HP
    obtain ⟨i, rfl, rfl, hi, hok, HI⟩ := hrel
    by_cases hlt : i < l.length
    · have HT := Lib.hid (flatN_take (p := pt) (lc := lc) hlt)
      have HSV := Lib.hid (sumV_take hlt)
      have hsr := sumV_rng (okv_take hi hok)
      have HBL : Hid ((addsK [] ((l.take i).flatMap fun v => noteA pt v lc)).length + 6 ≤ 100000) := Lib.hid (by
        have h1 := flatN_len pt lc (l.take i)
        have h2 := addsK_len ((l.take i).flatMap fun v => noteA pt v lc) []
        have h3 := List.length_take_le i l
        have z : ([] : List KV).length = 0 := rfl
        omega)
      have hsr1 : 0 ≤ sumV (l.take i) ∧ sumV (l.take i) ≤ 2000000000000 := by
        rw [List.length_take] at hsr
        refine ⟨hsr.1, ?_⟩
        have : ((min i l.length : Nat) : Int) ≤ 100 := by omega
        omega
      have HOK := Lib.hid hok
      obtain ⟨adp, hadp, p0, p1, p2, p3, p4, p5⟩ := at_T51 HR.out ((i : Nat) : Int) (by omega) (by omega)
      have er1 : rd_T51 l ((i : Nat) : Int) = l.getD i z51 := by unfold rd_T51; rw [Int.toNat_natCast]
      rw [er1, Int.toNat_natCast] at p0 p1 p2 p3 p4 p5
      subst hadp
      clear er1 hsr hok
      generalize addsK [] ((l.take i).flatMap fun v => noteA pt v lc) = K at *
      generalize sumV (l.take i) = al at *
      have hold : ∃ x, x = l.getD i z51 := ⟨_, rfl⟩
      obtain ⟨⟨v0, v1, v2, v3, v4, v5⟩, hx⟩ := hold
      rw [← hx] at HT HSV p0 p1 p2 p3 p4 p5
      have HXE := Lib.hid hx
      clear hx
      have p0 := HI.out.f.cell p0 (fun e => e)
      have p1 := HI.out.f.cell p1 (fun e => e)
      have p2 := HI.out.f.cell p2 (fun e => e)
      have p3 := HI.out.f.cell p3 (fun e => e)
      have p4 := HI.out.f.cell p4 (fun e => e)
      have p5 := HI.out.f.cell p5 (fun e => e)
      obtain ⟨hs0, hs1⟩ := hsr1
      simp only at p0 p1 p2 p3 p4 p5
      go_upto_region 11 with (fail)
      obtain ⟨wx, hwx⟩ : ∃ wx, wx = wr.alloc (.cells #[.int .i64 v0, .int .i64 v1, .bool v2, .int .i64 v3, .int .i64 v4, .int .i64 v5] 51) := ⟨_, rfl⟩
      rw [← hwx]
      obtain ⟨xb, hxb⟩ : ∃ xb, xb = wr.heap.size := ⟨_, rfl⟩
      rw [← hxb]
      have hx0 : wx.heap[xb]? = some (.cells #[.int .i64 v0, .int .i64 v1, .bool v2, .int .i64 v3, .int .i64 v4, .int .i64 v5] 51 (0, 0)) := by rw [hwx, hxb]; exact blk_new _ _
      have HW : Aside0 (SI w wx p mb K) := ⟨HI.out.movedN (by rw [hwx]; exact (Frm.refl _ wr).alloc _)⟩
      have HX := Aside0.mk hx0
      clear hwx hxb p0 p1 p2 p3 p4 p5
      have x_0 := (blk_cell hx0 0).trans (show (#[.int .i64 v0, .int .i64 v1, .bool v2, .int .i64 v3, .int .i64 v4, .int .i64 v5][0]? : Option Value) = some (.int .i64 v0) from rfl); have x_1 := (blk_cell hx0 1).trans (show (#[.int .i64 v0, .int .i64 v1, .bool v2, .int .i64 v3, .int .i64 v4, .int .i64 v5][1]? : Option Value) = some (.int .i64 v1) from rfl); have x_2 := (blk_cell hx0 2).trans (show (#[.int .i64 v0, .int .i64 v1, .bool v2, .int .i64 v3, .int .i64 v4, .int .i64 v5][2]? : Option Value) = some (.bool v2) from rfl); have x_3 := (blk_cell hx0 3).trans (show (#[.int .i64 v0, .int .i64 v1, .bool v2, .int .i64 v3, .int .i64 v4, .int .i64 v5][3]? : Option Value) = some (.int .i64 v3) from rfl); have x_4 := (blk_cell hx0 4).trans (show (#[.int .i64 v0, .int .i64 v1, .bool v2, .int .i64 v3, .int .i64 v4, .int .i64 v5][4]? : Option Value) = some (.int .i64 v4) from rfl); have x_5 := (blk_cell hx0 5).trans (show (#[.int .i64 v0, .int .i64 v1, .bool v2, .int .i64 v3, .int .i64 v4, .int .i64 v5][5]? : Option Value) = some (.int .i64 v5) from rfl)
      clear hx0
      by_cases hb0 : v3 < 0
      · have b0 : decide (v3 < 0) = true := decide_eq_true hb0
        clear hb0
        go_wp2_with fail
        (with_reducible refine (awake_any _).mono ?_); rintro e w3 ⟨rfl, hf3⟩
        have HF3 := Aside0.mk (HW.out.f.trans hf3)
        clear hf3
        go_wp2
        go_ret
        exact ⟨rfl, HF3.out⟩
      have b0 : decide (v3 < 0) = false := decide_eq_false hb0
      by_cases hb1 : 4294967295 < v3
      · have b1 : decide (4294967295 < v3) = true := decide_eq_true hb1
        clear hb1
        go_wp2_with fail
        (with_reducible refine (awake_any _).mono ?_); rintro e w3 ⟨rfl, hf3⟩
        have HF3 := Aside0.mk (HW.out.f.trans hf3)
        clear hf3
        go_wp2
        go_ret
        exact ⟨rfl, HF3.out⟩
      have b1 : decide (4294967295 < v3) = false := decide_eq_false hb1
      by_cases hb2 : v4 < 0
      · have b2 : decide (v4 < 0) = true := decide_eq_true hb2
        clear hb2
        go_wp2_with fail
        (with_reducible refine (awake_any _).mono ?_); rintro e w3 ⟨rfl, hf3⟩
        have HF3 := Aside0.mk (HW.out.f.trans hf3)
        clear hf3
        go_wp2
        go_ret
        exact ⟨rfl, HF3.out⟩
      have b2 : decide (v4 < 0) = false := decide_eq_false hb2
      by_cases hb3 : 4294967295 < v4
      · have b3 : decide (4294967295 < v4) = true := decide_eq_true hb3
        clear hb3
        go_wp2_with fail
        (with_reducible refine (awake_any _).mono ?_); rintro e w3 ⟨rfl, hf3⟩
        have HF3 := Aside0.mk (HW.out.f.trans hf3)
        clear hf3
        go_wp2
        go_ret
        exact ⟨rfl, HF3.out⟩
      have b3 : decide (4294967295 < v4) = false := decide_eq_false hb3
      by_cases hb4 : v5 < 0
      · have b4 : decide (v5 < 0) = true := decide_eq_true hb4
        clear hb4
        go_wp2_with fail
        (with_reducible refine (awake_any _).mono ?_); rintro e w3 ⟨rfl, hf3⟩
        have HF3 := Aside0.mk (HW.out.f.trans hf3)
        clear hf3
        go_wp2
        go_ret
        exact ⟨rfl, HF3.out⟩
      have b4 : decide (v5 < 0) = false := decide_eq_false hb4
      by_cases hb5 : 4294967295 < v5
      · have b5 : decide (4294967295 < v5) = true := decide_eq_true hb5
        clear hb5
        go_wp2_with fail
        (with_reducible refine (awake_any _).mono ?_); rintro e w3 ⟨rfl, hf3⟩
        have HF3 := Aside0.mk (HW.out.f.trans hf3)
        clear hf3
        go_wp2
        go_ret
        exact ⟨rfl, HF3.out⟩
      have b5 : decide (4294967295 < v5) = false := decide_eq_false hb5
      have hv : okv ⟨v0, v1, v2, v3, v4, v5⟩ := (show 0 ≤ v3 ∧ v3 ≤ 4294967295 ∧ 0 ≤ v4 ∧ v4 ≤ 4294967295 ∧ 0 ≤ v5 ∧ v5 ≤ 4294967295 from ⟨by omega, by omega, by omega, by omega, by omega, by omega⟩)
      have HV := Lib.hid hv
      have e1 : IntKind.i64.wrap (al + v3) = al + v3 := by rw [IntKind.wrap_i64]; omega
      have e2 : IntKind.i64.wrap (al + v3 + v4) = al + v3 + v4 := by rw [IntKind.wrap_i64]; omega
      have e3 : IntKind.i64.wrap (al + v3 + v4 + v5) = al + v3 + v4 + v5 := by rw [IntKind.wrap_i64]; omega
      clear hv hb0 hb1 hb2 hb3 hb4 hb5 hs0 hs1
      go_wp2_with fail
      (with_reducible refine (HW.out.note pt (by omega) HBL.out ⟨v0, v1, v2, v3, v4, v5⟩ lc).mono ?_); rintro e w4 ⟨rfl, h4, f4⟩
      have H4 := Aside0.mk h4
      have hx4 := HW.out.keep f4 HX.out
      clear h4 f4 x_0 x_1 x_2 x_3 x_4 x_5
      have y_0 := (blk_cell hx4 0).trans (show (#[.int .i64 v0, .int .i64 v1, .bool v2, .int .i64 v3, .int .i64 v4, .int .i64 v5][0]? : Option Value) = some (.int .i64 v0) from rfl); have y_1 := (blk_cell hx4 1).trans (show (#[.int .i64 v0, .int .i64 v1, .bool v2, .int .i64 v3, .int .i64 v4, .int .i64 v5][1]? : Option Value) = some (.int .i64 v1) from rfl); have y_2 := (blk_cell hx4 2).trans (show (#[.int .i64 v0, .int .i64 v1, .bool v2, .int .i64 v3, .int .i64 v4, .int .i64 v5][2]? : Option Value) = some (.bool v2) from rfl); have y_3 := (blk_cell hx4 3).trans (show (#[.int .i64 v0, .int .i64 v1, .bool v2, .int .i64 v3, .int .i64 v4, .int .i64 v5][3]? : Option Value) = some (.int .i64 v3) from rfl); have y_4 := (blk_cell hx4 4).trans (show (#[.int .i64 v0, .int .i64 v1, .bool v2, .int .i64 v3, .int .i64 v4, .int .i64 v5][4]? : Option Value) = some (.int .i64 v4) from rfl); have y_5 := (blk_cell hx4 5).trans (show (#[.int .i64 v0, .int .i64 v1, .bool v2, .int .i64 v3, .int .i64 v4, .int .i64 v5][5]? : Option Value) = some (.int .i64 v5) from rfl)
      clear hx4 HX HW
      go_wp2
      go_roundw
      case rel => exact ⟨i + 1, by go_num, by rw [HSV.out], by omega, fun q hq => by
        rcases Nat.lt_or_ge q i with h | h
        · exact HOK.out q h
        · obtain rfl : q = i := by omega
          rw [← HXE.out]; exact HV.out, ⟨by rw [HT.out]; exact H4.out⟩⟩
      case measure => simp [intOf]; omega
    · obtain rfl : i = l.length := by omega
      have l1 : decide ((l.length : Int) < (l.length : Int)) = false := decide_eq_false (by omega)
      rw [List.take_length] at HI ⊢
      obtain ⟨W, N, O, g1, g2, g3, g4, g5, gs, gW, gN, gO, gb⟩ := notes_get (p := pt) (lc := lc) (okv_at hok) h100
      obtain ⟨L, hL⟩ : ∃ L, L = if lc = true then sumV l else 0 := ⟨_, rfl⟩
      rw [← hL] at g5
      have ztTotal : tTotal.size = 6 := rfl
      have ztWithin : tWithin.size = 7 := rfl
      have ztNear : tNear.size = 5 := rfl
      have ztOver : tOver.size = 5 := rfl
      have ztLocal : tLocal.size = 6 := rfl
      have s5 : (9223372036854775807 < pt.size + 5) = False := eq_false (by omega)
      have s6 : (9223372036854775807 < pt.size + 6) = False := eq_false (by omega)
      have s7 : (9223372036854775807 < pt.size + 7) = False := eq_false (by omega)
      have G := HI.out
      have C1 : Aside0 (∀ w1, Frm (fun _ => False) wr w1 → Calls Try.prog 26 #[.pointer (some ⟨p, 0, none⟩), .string (pt ++ tTotal)] w1 fun e w' => e = .returned (.int .i64 (sumV l)) ∧ w1 = w') := ⟨fun w1 f => g1 ▸ (G.movedN f).get (pt ++ tTotal) (by rw [ByteArray.size_append, ztTotal]; omega)⟩
      have C2 : Aside0 (∀ w1, Frm (fun _ => False) wr w1 → Calls Try.prog 26 #[.pointer (some ⟨p, 0, none⟩), .string (pt ++ tWithin)] w1 fun e w' => e = .returned (.int .i64 W) ∧ w1 = w') := ⟨fun w1 f => g2 ▸ (G.movedN f).get (pt ++ tWithin) (by rw [ByteArray.size_append, ztWithin]; omega)⟩
      have C3 : Aside0 (∀ w1, Frm (fun _ => False) wr w1 → Calls Try.prog 26 #[.pointer (some ⟨p, 0, none⟩), .string (pt ++ tNear)] w1 fun e w' => e = .returned (.int .i64 N) ∧ w1 = w') := ⟨fun w1 f => g3 ▸ (G.movedN f).get (pt ++ tNear) (by rw [ByteArray.size_append, ztNear]; omega)⟩
      have C4 : Aside0 (∀ w1, Frm (fun _ => False) wr w1 → Calls Try.prog 26 #[.pointer (some ⟨p, 0, none⟩), .string (pt ++ tOver)] w1 fun e w' => e = .returned (.int .i64 O) ∧ w1 = w') := ⟨fun w1 f => g4 ▸ (G.movedN f).get (pt ++ tOver) (by rw [ByteArray.size_append, ztOver]; omega)⟩
      have C5 : Aside0 (∀ w1, Frm (fun _ => False) wr w1 → Calls Try.prog 26 #[.pointer (some ⟨p, 0, none⟩), .string (pt ++ tLocal)] w1 fun e w' => e = .returned (.int .i64 L) ∧ w1 = w') := ⟨fun w1 f => g5 ▸ (G.movedN f).get (pt ++ tLocal) (by rw [ByteArray.size_append, ztLocal]; omega)⟩
      have HFR := Aside0.mk G.f
      clear G HI g1 g2 g3 g4 g5 ztTotal ztWithin ztNear ztOver ztLocal hok
      have e1 : IntKind.i64.wrap (W + N) = W + N := by rw [IntKind.wrap_i64]; omega
      have e2 : IntKind.i64.wrap (W + N + O) = W + N + O := by rw [IntKind.wrap_i64]; omega
      generalize sumV l = T at *
      have e3 : (T == W + N + O) = true := by rw [gs]; simp
      have e4 : (T == T) = true := by simp
      have HAW : ∀ w, Calls Try.prog 21 #[] w fun e w' => e = .returned (.bool true) ∧ Frm (fun _ => False) w w' := awake_any
      have HAWK := Aside0.mk HAW
      clear HAW gs gW gN gO gb
      have hE : (L == T) = (lc || T == 0) := by
        rw [hL]
        cases lc <;> simp
        by_cases h : T = 0
        · simp [h]
        · simp only [beq_eq_false_iff_ne.2 h]
          simp; exact fun e => h e.symm
      clear hL
      cases lc with
      | true =>
        have e5 : (L == T) = true := by rw [hE]; rfl
        clear hE
        go_wp2_with fail
        (with_reducible refine (C1.out _ (Frm.refl _ _)).mono ?_); rintro e w1 ⟨rfl, rfl⟩
        go_wp2_with fail
        (with_reducible refine (C2.out _ (Frm.refl _ _)).mono ?_); rintro e w1 ⟨rfl, rfl⟩
        go_wp2_with fail
        (with_reducible refine (C3.out _ (Frm.refl _ _)).mono ?_); rintro e w1 ⟨rfl, rfl⟩
        go_wp2_with fail
        (with_reducible refine (C4.out _ (Frm.refl _ _)).mono ?_); rintro e w1 ⟨rfl, rfl⟩
        go_wp2_with fail
        (with_reducible refine (C5.out _ (Frm.refl _ _)).mono ?_); rintro e w1 ⟨rfl, rfl⟩
        go_wp2_with fail
        (with_reducible refine (HAWK.out _).mono ?_); rintro e w3 ⟨rfl, f3⟩
        have HF3 := Aside0.mk (HFR.out.trans f3)
        clear f3
        go_wp2
        go_ret
        exact ⟨rfl, HF3.out⟩
      | false =>
        have e5 : (L == T) = (T == 0) := by rw [hE]; rfl
        have e6 : ((T == 0) == (T == 0)) = true := by simp
        clear hE
        go_wp2_with fail
        (with_reducible refine (C1.out _ (Frm.refl _ _)).mono ?_); rintro e w1 ⟨rfl, rfl⟩
        go_wp2_with fail
        (with_reducible refine (C2.out _ (Frm.refl _ _)).mono ?_); rintro e w1 ⟨rfl, rfl⟩
        go_wp2_with fail
        (with_reducible refine (C3.out _ (Frm.refl _ _)).mono ?_); rintro e w1 ⟨rfl, rfl⟩
        go_wp2_with fail
        (with_reducible refine (C4.out _ (Frm.refl _ _)).mono ?_); rintro e w1 ⟨rfl, rfl⟩
        go_wp2_with fail
        (with_reducible refine (C5.out _ (Frm.refl _ _)).mono ?_); rintro e w1 ⟨rfl, rfl⟩
        go_wp2_with fail
        (with_reducible refine (HAWK.out _).mono ?_); rintro e w3 ⟨rfl, f3⟩
        have HF3 := Aside0.mk (HFR.out.trans f3)
        clear f3
        go_wp2
        go_ret
        exact ⟨rfl, HF3.out⟩

theorem statNotes_calls (A : Option Addr) (c : Nat) (l : List S51) (pt : ByteArray) (lc : Bool) (w : World) (hr : Kd.C k51 w A l.length l) (hc : l.length ≤ c) :
    Calls Try.prog 7 #[.slice A l.length c, .string pt, .bool lc] w fun e w' => e = .returned (.bool true) ∧ Below w.heap.size w w' := by
  by_cases h : 100 < l.length ∨ 100 < pt.size
  · exact (sn_out A c l pt lc w h).mono fun e w' h => ⟨h.1, h.2.to_below⟩
  · exact (sn_walk A c l pt lc w hr hc (by omega) (by omega)).mono fun e w' h => ⟨h.1, h.2.to_below⟩
end Go.Proofs.Ytehlhaddbfjllaa.Mp
