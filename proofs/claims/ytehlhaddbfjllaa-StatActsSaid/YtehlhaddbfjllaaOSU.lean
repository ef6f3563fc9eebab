/- Maps of texts to numbers, and what counts in them: a part of the proof. -/
import Derived.Test.YtehlhaddbfjllaaOST
import Derived.Deep.RegionHeld3
namespace Go.Proofs.Ytehlhaddbfjllaa.Mp
open Go.RowKit Go.Sort Go.Proofs.YtehlhaddbfjllaaW.PrintWords Go.Proofs.YtehlhaddbfjllaaW.PrintLast Go.Proofs.YtehlhaddbfjllaaW.PrintMore Go.Proofs.Ytehlhaddbfjllaa.PStatActs
set_option maxRecDepth 100000
set_option linter.unusedVariables false
attribute [local go_sem ↓] Go.wp_at_zero Go.wp_at_succ
theorem sd_start {w0 a : World} {p mb : Nat} (f : Frm (fun _ => False) w0 a) {w1 : World} (h1 : SI a w1 p mb []) : SD w0 (w1.alloc (.cells #[.slice none 0 0] 48)) p mb w1.heap.size [] [] := by
  have h := (h1.from_ f).movedN ((Frm.refl (fun _ => False) w1).alloc (.cells #[.slice none 0 0] 48))
  exact ⟨h, ⟨none, 0, [], ⟨blk_new _ _, Kd.R_nil _ _ _ _ _, Nat.zero_le _, (fun x hx => by cases hx), List.Pairwise.nil, (f.trans h1.f).size, h.f, fun _ => ⟨rfl, rfl⟩⟩, List.Perm.refl _⟩, List.nodup_nil⟩
theorem sa_out (A : Option Addr) (c : Nat) (l : List S53) (un : ByteArray) (w : World) (hr : Kd.C k53 w A l.length l) (hc : l.length ≤ c) {b : Bool} (hl : turncocklaw27_light.f (2 * l.length + 2) l = some b) (h : b = false ∨ 100 < un.size) :
    Calls Try.prog 6 #[.slice A l.length c, .string un] w fun e w' => e = .returned (.bool true) ∧ Frm (fun _ => False) w w' := by
  have HR := Aside0.mk hr
  have HL := Lib.hid hl
  clear hr hl
  cases b with
  | false =>
    clear h
    go_enter Try.func6, Try.ntmps6
    go_wp2_with fail
    (with_reducible refine (turncocklaw27_light.calls (2 * l.length + 2) A c l false _ HR.out hc HL.out).mono ?_); rintro e w1 ⟨rfl, q, rfl⟩
    go_wp2_with fail
    (with_reducible refine (awake_any _).mono ?_); rintro e w3 ⟨rfl, hf3⟩
    have HF3 := Aside0.mk hf3
    clear hf3
    go_wp2
    go_ret
    exact ⟨rfl, ((Frm.refl _ w).drewN q).trans HF3.out⟩
  | true =>
    have h2 : 100 < un.size := by
      rcases h with h | h
      · cases h
      · exact h
    have d3 : decide (100 < un.size) = true := decide_eq_true h2
    have d4 : decide ((100 : Int) < (un.size : Int)) = true := decide_eq_true (by omega)
    clear h h2
    go_enter Try.func6, Try.ntmps6
    go_wp2_with fail
    (with_reducible refine (turncocklaw27_light.calls (2 * l.length + 2) A c l true _ HR.out hc HL.out).mono ?_); rintro e w1 ⟨rfl, q, rfl⟩
    go_wp2_with fail
    (with_reducible refine (awake_any _).mono ?_); rintro e w3 ⟨rfl, hf3⟩
    have HF3 := Aside0.mk hf3
    clear hf3
    go_wp2
    go_ret
    exact ⟨rfl, ((Frm.refl _ w).drewN q).trans HF3.out⟩
set_option maxHeartbeats 8000000 in
theorem sa_walk (A : Option Addr) (c : Nat) (l : List S53) (un : ByteArray) (w : World) (hr : Kd.C k53 w A l.length l) (hc : l.length ≤ c) (hl : turncocklaw27_light.f (2 * l.length + 2) l = some true) (h100 : l.length ≤ 100) (hsz : ∀ q, q < l.length → (l.getD q z53).f1.size ≤ 100) (hun : un.size ≤ 100) :
    Calls Try.prog 6 #[.slice A l.length c, .string un] w fun e w' => e = .returned (.bool true) ∧ Frm (fun _ => False) w w' := by
  have HR := Aside0.mk hr
  have HL := Lib.hid hl
  have HS := Lib.hid hsz
  have d3 : decide (100 < un.size) = false := decide_eq_false (by omega)
  have d4 : decide ((100 : Int) < (un.size : Int)) = false := decide_eq_false (by omega)
  clear hr hl hsz
  go_enter Try.func6, Try.ntmps6
  go_wp2_with fail
  (with_reducible refine (turncocklaw27_light.calls (2 * l.length + 2) A c l true _ HR.out hc HL.out).mono ?_); rintro e w1 ⟨rfl, q, rfl⟩
  go_wp2_with fail
  (with_reducible refine (snew_any _).mono ?_); rintro e w1 ⟨p, mb, rfl, h1⟩
  have HP0 := Aside0.mk (sd_start ((Frm.refl (fun _ => False) w).drewN q) h1)
  clear h1
  go_upto_region 4 with (fail)
  obtain ⟨wz, hwz⟩ : ∃ wz, wz = w1.alloc (.cells #[.slice none 0 0] 48) := ⟨_, rfl⟩
  rw [← hwz] at HP0 ⊢
  obtain ⟨r, hr0⟩ : ∃ r, r = w1.heap.size := ⟨_, rfl⟩
  rw [← hr0] at HP0 ⊢
  clear hwz hr0
  go_wp2
  go_loopw [7] (fun v7 wr => ∃ i : Nat, v7 = .int .i64 (i : Nat) ∧ i ≤ l.length ∧ Aside0 (SD w wr p mb r (addsK [] ((l.take i).flatMap actA)) (addsK [] ((l.take i).flatMap actA)))) (fun v7 _ => l.length - (intOf v7).toNat)
  case atStart => exact ⟨0, rfl, Nat.zero_le _, HP0⟩
  case round =>
    clear HP0
    obtain ⟨i, rfl, hi, HI⟩ := hrel
    by_cases hlt : i < l.length
    · have hb1 := flat_len (l.take i)
      have hb3 := addsK_len ((l.take i).flatMap actA) []
      have hb5 := List.length_take_le i l
      have HT1 := Lib.hid (take_flat hlt [])
      have HB1 := Lib.hid (show (addsK [] ((l.take i).flatMap actA)).length + 6 ≤ 100000 by have z : ([] : List KV).length = 0 := rfl; omega)
      clear hb1 hb3 hb5
      generalize addsK [] ((l.take i).flatMap actA) = K at *
      obtain ⟨adp, hadp, p0, p1, p2, p3, p4, p5, p6, p7, p8, p9⟩ := at_T53 HR.out ((i : Nat) : Int) (by omega) (by omega)
      have er1 : rd_T53 l ((i : Nat) : Int) = l.getD i z53 := by unfold rd_T53; rw [Int.toNat_natCast]
      rw [er1, Int.toNat_natCast] at p0 p1 p2 p3 p4 p5 p6 p7 p8 p9
      subst hadp
      have HS1 := Lib.hid (HS.out i hlt)
      clear er1
      generalize l.getD i z53 = x at *
      have r0 := HI.out.s.f.cell p0 (fun e => e)
      have r1 := HI.out.s.f.cell p1 (fun e => e)
      have r2 := HI.out.s.f.cell p2 (fun e => e)
      have r3 := HI.out.s.f.cell p3 (fun e => e)
      have r4 := HI.out.s.f.cell p4 (fun e => e)
      have r5 := HI.out.s.f.cell p5 (fun e => e)
      have r6 := HI.out.s.f.cell p6 (fun e => e)
      have r7 := HI.out.s.f.cell p7 (fun e => e)
      have r8 := HI.out.s.f.cell p8 (fun e => e)
      have r9 := HI.out.s.f.cell p9 (fun e => e)
      have PP := Aside0.mk (⟨p0, p1, p2, p3, p4, p5, p6, p7, p8, p9⟩ : _ ∧ _ ∧ _ ∧ _ ∧ _ ∧ _ ∧ _ ∧ _ ∧ _ ∧ _)
      clear p0 p1 p2 p3 p4 p5 p6 p7 p8 p9
      go_wp2_with fail
      (with_reducible refine (HI.out.does x (by have := HS1.out; omega) HB1.out).mono ?_); rintro e w3 ⟨rfl, h3⟩
      have H3 := Aside0.mk h3
      clear h3 r0 r1 r2 r3 r4 r5 r6 r7 r8 r9 HI
      have q0 := H3.out.s.f.cell PP.out.1 (fun e => e)
      have q1 := H3.out.s.f.cell PP.out.2.1 (fun e => e)
      have q2 := H3.out.s.f.cell PP.out.2.2.1 (fun e => e)
      have q3 := H3.out.s.f.cell PP.out.2.2.2.1 (fun e => e)
      have q4 := H3.out.s.f.cell PP.out.2.2.2.2.1 (fun e => e)
      have q5 := H3.out.s.f.cell PP.out.2.2.2.2.2.1 (fun e => e)
      have q6 := H3.out.s.f.cell PP.out.2.2.2.2.2.2.1 (fun e => e)
      have q7 := H3.out.s.f.cell PP.out.2.2.2.2.2.2.2.1 (fun e => e)
      have q8 := H3.out.s.f.cell PP.out.2.2.2.2.2.2.2.2.1 (fun e => e)
      have q9 := H3.out.s.f.cell PP.out.2.2.2.2.2.2.2.2.2 (fun e => e)
      have hxs : x.f1.size ≤ 100 := HS1.out
      have HAX := Lib.hid (show actA x = if x.f0 = 0 then [(x.f1, x.f2)] else noteA x.f1 x.f3 x.f4 from rfl)
      have HPQ : Aside0 (∀ {w4 : World}, Frm (fun _ => False) w w4 → w4.cell? ⟨(adp.add (i * 10)).block, (adp.add (i * 10)).off + 1, none⟩ = some (.string x.f1)) := ⟨fun f => f.cell PP.out.2.1 (fun e => e)⟩
      have PP1 := Aside0.mk PP.out.2.1
      have PP2 := Aside0.mk PP.out.2.2.1
      have PP5 := Aside0.mk PP.out.2.2.2
      clear PP
      obtain ⟨x0, x1, x2, ⟨v0, v1, v2, v3, v4, v5⟩, x4⟩ := x
      simp only at q0 q1 q2 q3 q4 q5 q6 q7 q8 q9 HAX HPQ hxs PP1 PP2 PP5
      generalize actA ⟨x0, x1, x2, ⟨v0, v1, v2, v3, v4, v5⟩, x4⟩ = ac at *
      clear HS1
      by_cases hk : x0 = 0
      · have b1 : (x0 == 0) = true := by simpa using hk
        have HAC : Hid (addsK K ac = addK K x1 x2) := Lib.hid (by rw [HAX.out, if_pos hk]; rfl)
        clear hk HAX
        go_upto_region 11 with (fail)
        have HD0 := Aside0.mk (H3.out.movedN ((Frm.refl _ w3).drew))
        go_region_held3 (fun w' => w'.cell? ⟨(adp.add (i * 10)).block, (adp.add (i * 10)).off + 1, none⟩ = some (.string x1) ∧ w'.cell? ⟨(adp.add (i * 10)).block, (adp.add (i * 10)).off + 2, none⟩ = some (.int .i64 x2)) (go_keep) (first | (go_at_call 24; refine (SD.dadd (by first | exact HD0.out | exact H3.out) x1 (by omega) (by have := HB1.out; omega) x2).mono ?_; rintro e w4 ⟨rfl, h4, _⟩; have H4 := Aside0.mk h4; have y1 := h4.s.f.cell PP1.out (fun e => e); have y2 := h4.s.f.cell PP2.out (fun e => e); clear h4))
        clear q0 q1 q2 q3 q4 q5 q6 q7 q8 q9 H3
        rw [← HAC.out] at H4
        have HK2 := Lib.hid (show addsK K ac = addsK [] (List.flatMap actA (List.take (i + 1) l)) from HT1.out.symm)
        clear HT1 HAC
        generalize addsK K ac = K2 at *
        obtain ⟨gv, hgv⟩ : ∃ gv, gv = getK K2 x1 := ⟨_, rfl⟩
        have CG : Aside0 (∀ m, Calls Try.prog 26 #[.pointer (some ⟨p, 0, none⟩), .string x1] (w4.drewN m) fun e w' => e = .returned (.int .i64 gv) ∧ w4.drewN m = w') := ⟨fun m => by rw [hgv]; exact (H4.out.movedN ((Frm.refl _ w4).drewN m)).get x1 (by omega)⟩
        have CH : Aside0 (∀ m, Calls Try.prog 27 #[.pointer (some ⟨r, 0, none⟩), .string x1] (w4.drewN m) fun e w' => e = .returned (.int .i64 gv) ∧ w4.drewN m = w') := ⟨fun m => by rw [hgv]; exact (H4.out.movedN ((Frm.refl _ w4).drewN m)).dget x1⟩
        have y0 := H4.out.s.f.cell PP1.out (fun e => e)
        have b5 : (gv == gv) = true := by simp
        clear hgv
        go_upto_region 13 with (fail)
        go_region_held3 (fun w' => w'.cell? ⟨(adp.add (i * 10)).block, (adp.add (i * 10)).off + 1, none⟩ = some (.string x1)) (go_keep) (first | (go_at_call 26; refine (CG.out _).mono ?_; rintro e w5 ⟨rfl, rfl⟩) | (go_at_call 27; refine (CH.out _).mono ?_; rintro e w6 ⟨rfl, rfl⟩))
        have H5 := Aside0.mk (H4.out.movedN ((Frm.refl _ w4).drew))
        go_wp2
        go_roundw
        case rel => exact ⟨i + 1, by go_num, by omega, ⟨by rw [← HK2.out]; exact H5.out⟩⟩
        case measure => simp [intOf]; omega
      · have b1 : (x0 == 0) = false := by simpa using hk
        have HAC : Hid (addsK K ac = addsK K (noteA x1 ⟨v0, v1, v2, v3, v4, v5⟩ x4)) := Lib.hid (by rw [HAX.out, if_neg hk])
        clear hk HAX
        go_upto_region 12 with (fail)
        have HD0 := Aside0.mk (H3.out.movedN ((Frm.refl _ w3).drew))
        go_region_held3 (fun w' => w'.cell? ⟨(adp.add (i * 10)).block, (adp.add (i * 10)).off + 1, none⟩ = some (.string x1) ∧ w'.cell? ⟨(adp.add (i * 10)).block, (adp.add (i * 10)).off + 3, none⟩ = some (.int .i64 v0) ∧ w'.cell? ⟨(adp.add (i * 10)).block, (adp.add (i * 10)).off + 4, none⟩ = some (.int .i64 v1) ∧ w'.cell? ⟨(adp.add (i * 10)).block, (adp.add (i * 10)).off + 5, none⟩ = some (.bool v2) ∧ w'.cell? ⟨(adp.add (i * 10)).block, (adp.add (i * 10)).off + 6, none⟩ = some (.int .i64 v3) ∧ w'.cell? ⟨(adp.add (i * 10)).block, (adp.add (i * 10)).off + 7, none⟩ = some (.int .i64 v4) ∧ w'.cell? ⟨(adp.add (i * 10)).block, (adp.add (i * 10)).off + 8, none⟩ = some (.int .i64 v5) ∧ w'.cell? ⟨(adp.add (i * 10)).block, (adp.add (i * 10)).off + 9, none⟩ = some (.bool x4)) (go_keep) (first | (go_at_call 25; refine (SD.dnote (by first | exact HD0.out | exact H3.out) x1 (by omega) HB1.out ⟨v0, v1, v2, v3, v4, v5⟩ x4).mono ?_; rintro e w4 ⟨rfl, h4⟩; have H4 := Aside0.mk h4; have y1 := h4.s.f.cell PP1.out (fun e => e); have y3 := h4.s.f.cell PP5.out.1 (fun e => e); have y4 := h4.s.f.cell PP5.out.2.1 (fun e => e); have y5 := h4.s.f.cell PP5.out.2.2.1 (fun e => e); have y6 := h4.s.f.cell PP5.out.2.2.2.1 (fun e => e); have y7 := h4.s.f.cell PP5.out.2.2.2.2.1 (fun e => e); have y8 := h4.s.f.cell PP5.out.2.2.2.2.2.1 (fun e => e); have y9 := h4.s.f.cell PP5.out.2.2.2.2.2.2 (fun e => e); clear h4))
        clear y3 y4 y5 y6 y7 y8 y9
        clear q0 q1 q2 q3 q4 q5 q6 q7 q8 q9 H3
        rw [← HAC.out] at H4
        have HK2 := Lib.hid (show addsK K ac = addsK [] (List.flatMap actA (List.take (i + 1) l)) from HT1.out.symm)
        clear HT1 HAC
        generalize addsK K ac = K2 at *
        obtain ⟨gv, hgv⟩ : ∃ gv, gv = getK K2 x1 := ⟨_, rfl⟩
        have CG : Aside0 (∀ m, Calls Try.prog 26 #[.pointer (some ⟨p, 0, none⟩), .string x1] (w4.drewN m) fun e w' => e = .returned (.int .i64 gv) ∧ w4.drewN m = w') := ⟨fun m => by rw [hgv]; exact (H4.out.movedN ((Frm.refl _ w4).drewN m)).get x1 (by omega)⟩
        have CH : Aside0 (∀ m, Calls Try.prog 27 #[.pointer (some ⟨r, 0, none⟩), .string x1] (w4.drewN m) fun e w' => e = .returned (.int .i64 gv) ∧ w4.drewN m = w') := ⟨fun m => by rw [hgv]; exact (H4.out.movedN ((Frm.refl _ w4).drewN m)).dget x1⟩
        have y0 := H4.out.s.f.cell PP1.out (fun e => e)
        have b5 : (gv == gv) = true := by simp
        clear hgv
        go_upto_region 13 with (fail)
        go_region_held3 (fun w' => w'.cell? ⟨(adp.add (i * 10)).block, (adp.add (i * 10)).off + 1, none⟩ = some (.string x1)) (go_keep) (first | (go_at_call 26; refine (CG.out _).mono ?_; rintro e w5 ⟨rfl, rfl⟩) | (go_at_call 27; refine (CH.out _).mono ?_; rintro e w6 ⟨rfl, rfl⟩))
        have H5 := Aside0.mk (H4.out.movedN ((Frm.refl _ w4).drew))
        go_wp2
        go_roundw
        case rel => exact ⟨i + 1, by go_num, by omega, ⟨by rw [← HK2.out]; exact H5.out⟩⟩
        case measure => simp [intOf]; omega
    · obtain rfl : i = l.length := by omega
      have l1 : decide ((l.length : Int) < (l.length : Int)) = false := decide_eq_false (by omega)
      rw [List.take_length] at HI
      have hfew := HI.out.s.few
      generalize addsK [] (l.flatMap actA) = K at *
      have e9 : ((textB (listK K un)).toList == (textB (listK K un)).toList) = true := by simp
      have HL1 : Hid ((listK K un).length ≤ 1000000) := Lib.hid (by have := listK_len K un; omega)
      have HL2 : Hid ((listK K ⟨#[]⟩).length ≤ 1000000) := Lib.hid (by have := listK_len K ⟨#[]⟩; omega)
      obtain ⟨A9, c9, z9, hr9⟩ := HI.out.rows
      have HR9 := Aside0.mk hr9
      have HFI := Aside0.mk HI.out.s.f
      have CL1 : Aside0 (∀ {w1}, Frm (fun _ => False) wr w1 → Calls Try.prog 29 #[.pointer (some ⟨p, 0, none⟩), .string un] w1 fun e w' => ∃ (B : Option Addr) (d : Nat), e = .returned (.slice B (listK K un).length d) ∧ Kd.R k79 79 w' w1.heap.size (fun _ => True) (.slice B (listK K un).length d) (listK K un) ∧ Frm (fun _ => False) w1 w') := ⟨fun f => (HI.out.movedN f).list un⟩
      have CL2 : Aside0 (∀ {w1}, Frm (fun _ => False) wr w1 → Calls Try.prog 30 #[.pointer (some ⟨r, 0, none⟩), .string un] w1 fun e w' => ∃ (B : Option Addr) (d : Nat), e = .returned (.slice B (listK K un).length d) ∧ Kd.R k79 79 w' w1.heap.size (fun _ => True) (.slice B (listK K un).length d) (listK K un) ∧ Frm (fun _ => False) w1 w') := ⟨fun f => (HI.out.movedN f).dlist un⟩
      have CL3 : Aside0 (∀ {w1}, Frm (fun _ => False) wr w1 → Calls Try.prog 29 #[.pointer (some ⟨p, 0, none⟩), .string ⟨#[]⟩] w1 fun e w' => ∃ (B : Option Addr) (d : Nat), e = .returned (.slice B (listK K ⟨#[]⟩).length d) ∧ Kd.R k79 79 w' w1.heap.size (fun _ => True) (.slice B (listK K ⟨#[]⟩).length d) (listK K ⟨#[]⟩) ∧ Frm (fun _ => False) w1 w') := ⟨fun f => (HI.out.movedN f).list ⟨#[]⟩⟩
      have CT1 : Aside0 (∀ {w1}, Frm (fun _ => False) wr w1 → Calls Try.prog 31 #[.pointer (some ⟨p, 0, none⟩), .string un] w1 fun e w' => e = .returned (.string (textB (listK K un))) ∧ Frm (fun _ => False) w1 w') := ⟨fun f => (HI.out.movedN f).text un⟩
      have CT2 : Aside0 (∀ {w1}, Frm (fun _ => False) wr w1 → Calls Try.prog 32 #[.pointer (some ⟨r, 0, none⟩), .string un] w1 fun e w' => e = .returned (.string (textB (listK K un))) ∧ Frm (fun _ => False) w1 w') := ⟨fun f => (HI.out.movedN f).dtext un⟩
      generalize textB (listK K un) = tx at *
      generalize listK K un = U at *
      generalize listK K ⟨#[]⟩ = V at *
      clear hr9 hfew
      go_upto_region 15 with (fail)
      have F0d := Aside0.mk ((Frm.refl (fun _ => False) wr).drew)
      go_region_held3 (fun w' => w'.cell? ⟨r, 0, none⟩ = some (.slice A9 V.length c9)) (go_keep) (first
        | (go_at_call_of 29 un; (with_reducible refine (CL1.out F0d.out).mono ?_); rintro e a1 ⟨B1, d1, rfl, r1, f1⟩; have R1 := Aside0.mk r1; have F1 := Aside0.mk (F0d.out.trans f1); have x1 := F1.out.cell z9 (fun e => e); clear r1 f1)
        | (go_at_call 30; (with_reducible refine (CL2.out F1.out).mono ?_); rintro e a2 ⟨B2, d2, rfl, r2, f2⟩; have R2 := Aside0.mk r2; have Q1 := Aside0.mk (rowA R1.out f2 (fun _ _ _ e => e.elim)); have F2 := Aside0.mk (F1.out.trans f2); have x2 := F2.out.cell z9 (fun e => e); clear r2 f2)
        | (go_at_call 28; (with_reducible refine (same_any U HL1.out Q1.out R2.out).mono ?_); rintro e a3 ⟨rfl, f3⟩; have F3 := Aside0.mk (F2.out.trans f3); have x3 := F3.out.cell z9 (fun e => e); clear f3)
        | (go_at_call 31; (with_reducible refine (CT1.out F3.out).mono ?_); rintro e a4 ⟨rfl, f4⟩; have F4 := Aside0.mk (F3.out.trans f4); have x4 := F4.out.cell z9 (fun e => e); clear f4)
        | (go_at_call 32; (with_reducible refine (CT2.out F4.out).mono ?_); rintro e a5 ⟨rfl, f5⟩; have F5 := Aside0.mk (F4.out.trans f5); have x5 := F5.out.cell z9 (fun e => e); clear f5)
        | (go_at_call 29; (with_reducible refine (CL3.out F5.out).mono ?_); rintro e a6 ⟨B6, d6, rfl, r6, f6⟩; have R6 := Aside0.mk r6; have F6 := Aside0.mk (F5.out.trans f6); have x6 := F6.out.cell z9 (fun e => e); clear r6 f6)
        | (go_at_call 28; (with_reducible refine (same_any V HL2.out R6.out (rowA HR9.out F6.out (fun _ _ _ e => e.elim))).mono ?_); rintro e a7 ⟨rfl, f7⟩; have F7 := Aside0.mk (F6.out.trans f7); have x7 := F7.out.cell z9 (fun e => e); clear f7)
        | (go_at_call 21; (with_reducible refine (awake_any _).mono ?_); rintro e a8 ⟨rfl, f8⟩; have F8 := Aside0.mk (F7.out.trans f8); have x8 := F8.out.cell z9 (fun e => e); clear f8))
      all_goals go_wp2
      all_goals go_ret
      all_goals exact ⟨rfl, HFI.out.trans F8.out⟩
theorem statActs_calls (A : Option Addr) (c : Nat) (l : List S53) (un : ByteArray) (w : World) (hr : Kd.C k53 w A l.length l) (hc : l.length ≤ c) (hm : l.length ≤ maxLen) :
    Calls Try.prog 6 #[.slice A l.length c, .string un] w fun e w' => e = .returned (.bool true) ∧ Below w.heap.size w w' := by
  obtain ⟨b, h1, h2⟩ := light_f l (by unfold maxLen at hm; omega)
  by_cases hb : b = false ∨ 100 < un.size
  · exact (sa_out A c l un w hr hc h1 hb).mono fun e w' h => ⟨h.1, h.2.to_below⟩
  obtain rfl : b = true := by cases b; exact absurd (.inl rfl) hb; rfl
  exact (sa_walk A c l un w hr hc h1 (h2 rfl).1 (h2 rfl).2 (by omega)).mono fun e w' h => ⟨h.1, h.2.to_below⟩
end Go.Proofs.Ytehlhaddbfjllaa.Mp
