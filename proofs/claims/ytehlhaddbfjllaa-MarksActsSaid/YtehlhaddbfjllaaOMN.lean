/- Maps of texts to numbers, and what counts in them: a part of the proof. -/
import Derived.Test.YtehlhaddbfjllaaOMM
import Derived.Deep.RegionHeld3
namespace Go.Proofs.Ytehlhaddbfjllaa.Mp
open Go.RowKit Go.Sort Go.Proofs.YtehlhaddbfjllaaW.PrintWords Go.Proofs.YtehlhaddbfjllaaW.PrintLast Go.Proofs.YtehlhaddbfjllaaW.PrintMore Go.Proofs.Ytehlhaddbfjllaa.PMarksActs
set_option maxRecDepth 100000
set_option linter.unusedVariables false
attribute [local go_sem ↓] Go.wp_at_zero Go.wp_at_succ
theorem lit75 (W : World) : Kd.R k75 75 (W.alloc (.cells #[] 75)) W.heap.size (fun _ => True) (.slice (some ⟨W.heap.size, 0, none⟩) 0 0) [] := ⟨fun _ _ => trivial, [], ⟨rfl, .inr ⟨W.heap.size, 0, #[], rfl, Nat.le_refl _, blk_new _ _, Nat.le_refl _, Nat.zero_le _, rfl, rfl⟩⟩, Reps.none _ _⟩
theorem k75_KM (w : World) (base : Nat) (ok : Nat → Prop) (x : S75) (cs : List Value) (h : k75.K w x cs) : k75.M w base ok x cs := by
  obtain rfl := k75_open h
  exact k75_mkM _ _ _ _
theorem cut_len {L : List S75} {j : Nat} (hj : j < L.length) : (cutAt L j).length + 1 = L.length := by unfold cutAt; rw [List.length_append, List.length_take, List.length_drop]; omega
section
variable {w0 w : World} {r most : Nat} {A : Option Addr} {c : Nat} {L : List S75}
set_option maxHeartbeats 4000000 in
theorem DM.put (h : DM w0 w r most A c L) (key : ByteArray) (u n : Int) : Calls Try.prog 15 #[.pointer (some ⟨r, 0, none⟩), .string key, .int .i64 u, .int .i64 n] w fun e w' => e = .returned (.tuple #[]) ∧ ∃ A' c' L', DM w0 w' r most A' c' L' ∧ dputR most L key u n L' ∧ KE w w' := by
  have c0 := h.c0
  have c1 := h.c1
  have H := Aside0.mk h
  by_cases hu : u ≤ n
  · have d1 : decide (u ≤ n) = true := decide_eq_true hu
    have HU := Lib.hid hu
    clear hu h
    go_enter Try.func15, Try.ntmps15
    go_wp2
    (try simp only [Exit.inBlock, Exit.then])
    refine bodyPost_ret (results_none rfl _ _ _) rfl ?_
    exact ⟨rfl, _, _, _, H.out, .inl ⟨.inl HU.out, rfl⟩, KE.refl _⟩
  have d1 : decide (u ≤ n) = false := decide_eq_false hu
  by_cases hm : most = 0
  · have d2 : ((most : Int) == 0) = true := by simp [hm]
    have HM0 := Lib.hid hm
    clear hu hm h
    go_enter Try.func15, Try.ntmps15
    go_wp2
    (try simp only [Exit.inBlock, Exit.then])
    refine bodyPost_ret (results_none rfl _ _ _) rfl ?_
    exact ⟨rfl, _, _, _, H.out, .inl ⟨.inr HM0.out, rfl⟩, KE.refl _⟩
  have d2 : ((most : Int) == 0) = false := by simpa using hm
  have HU := Lib.hid (show n < u ∧ 0 < most from ⟨by omega, by omega⟩)
  have hN : L.length ≤ 1000000 := by have := h.few; have := h.big; omega
  obtain ⟨v, hv, hvv⟩ := find_f L hN key
  have HV := Lib.hid hv
  have HR := Aside0.mk (Kd.R_reads' h.row)
  clear hu hm h hv
  rcases hvv with ⟨rfl, hno⟩ | ⟨j, rfl, hj, hk⟩
  · have HNO := Lib.hid hno
    clear hno
    go_enter Try.func15, Try.ntmps15
    go_wp2_with fail
    (with_reducible refine (turncockref20_find.calls (L.length + 1) A c L key (-1) _ HR.out.2.2 HR.out.2.1 HV.out).mono ?_); rintro e w1 ⟨rfl, q, rfl⟩
    have H1 := Aside0.mk (H.out.movedN ((Frm.refl _ w).drewN q))
    have HK1 := Aside0.mk (KE.of_frm ((Frm.refl (fun _ => False) w).drewN q))
    generalize w.drewN q = wz at *
    clear c0 c1
    have c0 := H1.out.c0
    have c1 := H1.out.c1
    by_cases hg : L.length < most
    · have d3 : decide (most ≤ L.length) = false := decide_eq_false (by omega)
      have d4 : decide ((most : Int) ≤ (L.length : Int)) = false := decide_eq_false (by omega)
      have HL1 := Lib.hid hg
      have HREL : Hid (dgoR most L key n L) := Lib.hid (.inr ⟨HNO.out, .inl ⟨hg, rfl⟩⟩)
      clear hg
      go_upto_region 4 with (fail)
      go_region_held3 (fun w' => w'.cell? ⟨r, 0, none⟩ = some (.int .i64 (most : Int)) ∧ w'.cell? ⟨r, 1, none⟩ = some (.slice A L.length c)) (go_keep) (fail)
      have H2 := Aside0.mk (H1.out.movedN ((Frm.refl _ wz).drew))
      have HK2 := Aside0.mk (HK1.out.trans (KE.of_frm ((Frm.refl (fun _ => False) wz).drew)))
      generalize wz.drew = wz2 at *
      clear c0 c1
      have c0 := H2.out.c0
      have c1 := H2.out.c1
      go_upto_region 6 with (fail)
      go_region_held3 (fun w' => w'.cell? ⟨r, 0, none⟩ = some (.int .i64 (most : Int)) ∧ w'.cell? ⟨r, 1, none⟩ = some (.slice A L.length c)) (go_keep) (fail)
      have HY := Aside0.mk (H2.out.movedN ((Frm.refl _ wz2).drew))
      have HK := Aside0.mk (HK2.out.trans (KE.of_frm ((Frm.refl (fun _ => False) wz2).drew)))
      generalize wz2.drew = wy at *
      clear c0 c1
      have cc := HY.out.c1
      have ca : (wy.alloc (.cells #[] 75)).cell? ⟨r, 1, none⟩ = some (.slice A L.length c) := ((Frm.refl (fun _ => False) wy).alloc _).cell cc (fun e => e)
      have HC := Aside0.mk (Kd.C_below (Kd.R_reads' HY.out.row).2.2 (below_alloc (Below.refl _ _) (.cells #[] 75)))
      have HL0 := Aside0.mk (lit75 wy)
      have HB0 := Aside0.mk (below_alloc (Below.refl wy.heap.size wy) (.cells #[] 75))
      have hb1 := HY.out.few
      have hb2 := HY.out.big
      go_wp2_with (first | (at_builtin; refine Kd.R_append_rows k75 (w0 := wy) wy.heap.size rfl (.tmp 79) (.tmp 83) 32 75 (.agg #[(.string ⟨#[]⟩), (.int .i64 0), (.int .i64 0)]) 32 rfl Try.underlying32 info75 rfl (by decide) (by omega) (.slice (some ⟨wy.heap.size, 0, none⟩) 0 0) [] L A L.length c (fun _ => True) (fun _ => False) rfl rfl HL0.out HC.out (k75_KM _ _ _) (fun _ h => h.elim) (fun _ _ => trivial) HB0.out HB0.out.size (by simp; omega) ?_; intro v4 w4 hv4 hb4 hg4 hx4; rw [List.nil_append] at hv4; have HV4 := Aside0.mk hv4; have HB4 := Aside0.mk hb4; obtain ⟨A4, c4, e4⟩ := Kd.R_slice hv4; subst e4; clear hv4 hb4 hg4 hx4) | (at_builtin; refine Kd.R_append k75 (w0 := wy) wy.heap.size rfl (.tmp 84) (.tmp 88) 32 75 (.agg #[(.string ⟨#[]⟩), (.int .i64 0), (.int .i64 0)]) 32 rfl Try.underlying32 info75 rfl (by decide) (by omega) (.slice A4 L.length c4) L ⟨key, 0, u⟩ [.string key, .int .i64 0, .int .i64 u] (fun _ => True) (fun _ => False) rfl rfl (k75_mkM _ _ _ _) (fun _ h => h.elim) (fun _ _ => trivial) HV4.out HB4.out HB4.out.size (by omega) ?_; intro v5 w5 hv5 hb5 hg5 hx5; obtain ⟨A5, c5, e5⟩ := Kd.R_slice hv5; subst e5; have cf := (HY.out.movedN (Frm.of_below (F := fun _ => False) hb5)).c1; have fz := blk_frozen (HY.out.movedN (Frm.of_below (F := fun _ => False) hb5)).hd 1; have HD := Aside0.mk (HY.out.renew hv5 hb5 (by rw [List.length_append, List.length_singleton]; have := HL1.out; omega)); have HKE := Aside0.mk (HK.out.trans (KE.store hb5 HY.out.hd 1 (.slice A5 (L ++ [(⟨key, 0, u⟩ : S75)]).length c5))); rw [List.length_append, List.length_singleton] at HKE; clear hv5 hb5 hg5 hx5))
      go_end0
      exact ⟨rfl, _, _, _, by have h9 := HD.out; rw [show (L ++ [(⟨key, 0, u⟩ : S75)]).length = L.length + 1 by rw [List.length_append, List.length_singleton]] at h9; exact h9, .inr ⟨HU.out.1, HU.out.2, L, HREL.out, rfl⟩, HKE.out⟩
    · have d3 : decide (most ≤ L.length) = true := decide_eq_true (by omega)
      have d4 : decide ((most : Int) ≤ (L.length : Int)) = true := decide_eq_true (by omega)
      have HG := Lib.hid (show most ≤ L.length by omega)
      have HON := Lib.hid (only_f L hN n)
      clear hg
      go_upto_region 4 with (fail)
      go_region_held3 (fun w' => w'.cell? ⟨r, 0, none⟩ = some (.int .i64 (most : Int)) ∧ w'.cell? ⟨r, 1, none⟩ = some (.slice A L.length c)) (go_keep) (fail)
      have H2 := Aside0.mk (H1.out.movedN ((Frm.refl _ wz).drew))
      have HK2 := Aside0.mk (HK1.out.trans (KE.of_frm ((Frm.refl (fun _ => False) wz).drew)))
      generalize wz.drew = wz2 at *
      clear c0 c1 d3 d4
      have c1 := H2.out.c1
      have HR2 := Aside0.mk (Kd.R_reads' H2.out.row)
      go_wp2_with fail
      (with_reducible refine (turncockref20_only.calls (L.length + 1) A c L n _ _ HR2.out.2.2 HR2.out.2.1 HON.out).mono ?_); rintro e w4 ⟨v4, rfl, hv4, hb4⟩
      obtain ⟨L2, hL2⟩ : ∃ L2, L2 = L.filter (fun x => decide (n < x.f2)) := ⟨_, rfl⟩
      have hl2 : L2.length ≤ L.length := by rw [hL2]; exact List.length_filter_le _ _
      rw [← hL2] at hv4
      have HL2 := Lib.hid hL2
      have HLL := Lib.hid hl2
      obtain ⟨A1, c1', e4⟩ := Kd.R_slice hv4
      subst e4
      have cf := (H2.out.movedN (Frm.of_below (F := fun _ => False) hb4)).c1
      have fz := blk_frozen (H2.out.movedN (Frm.of_below (F := fun _ => False) hb4)).hd 1
      have H3 := Aside0.mk (H2.out.renew hv4 hb4 (by have := H2.out.few; omega))
      have HK3 := Aside0.mk (HK2.out.trans (KE.store hb4 H2.out.hd 1 (.slice A1 L2.length c1')))
      clear hv4 hb4 hL2 hl2 HON
      go_upto_region 6 with (fail)
      generalize w4.setCell ⟨r, 1, none⟩ (.slice A1 L2.length c1') = wz3 at *
      clear cf fz c1
      have c0 := H3.out.c0
      have c1 := H3.out.c1
      by_cases hg2 : L2.length < most
      · have d3 : decide (most ≤ L2.length) = false := decide_eq_false (by omega)
        have d4 : decide ((most : Int) ≤ (L2.length : Int)) = false := decide_eq_false (by omega)
        have HL1 := Lib.hid hg2
        have HREL : Hid (dgoR most L key n L2) := Lib.hid (.inr ⟨HNO.out, .inr ⟨HG.out, .inl (by rw [← HL2.out]; exact ⟨hg2, rfl⟩)⟩⟩)
        clear hg2
        go_region_held3 (fun w' => w'.cell? ⟨r, 0, none⟩ = some (.int .i64 (most : Int)) ∧ w'.cell? ⟨r, 1, none⟩ = some (.slice A1 L2.length c1')) (go_keep) (fail)
        have HY := Aside0.mk (H3.out.movedN ((Frm.refl _ wz3).drew))
        have HK := Aside0.mk (HK3.out.trans (KE.of_frm ((Frm.refl (fun _ => False) wz3).drew)))
        generalize wz3.drew = wy at *
        clear c0 c1
        have cc := HY.out.c1
        have ca : (wy.alloc (.cells #[] 75)).cell? ⟨r, 1, none⟩ = some (.slice A1 L2.length c1') := ((Frm.refl (fun _ => False) wy).alloc _).cell cc (fun e => e)
        have HC := Aside0.mk (Kd.C_below (Kd.R_reads' HY.out.row).2.2 (below_alloc (Below.refl _ _) (.cells #[] 75)))
        have HL0 := Aside0.mk (lit75 wy)
        have HB0 := Aside0.mk (below_alloc (Below.refl wy.heap.size wy) (.cells #[] 75))
        have hb1 := HY.out.few
        have hb2 := HY.out.big
        go_wp2_with (first | (at_builtin; refine Kd.R_append_rows k75 (w0 := wy) wy.heap.size rfl (.tmp 79) (.tmp 83) 32 75 (.agg #[(.string ⟨#[]⟩), (.int .i64 0), (.int .i64 0)]) 32 rfl Try.underlying32 info75 rfl (by decide) (by omega) (.slice (some ⟨wy.heap.size, 0, none⟩) 0 0) [] L2 A1 L2.length c1' (fun _ => True) (fun _ => False) rfl rfl HL0.out HC.out (k75_KM _ _ _) (fun _ h => h.elim) (fun _ _ => trivial) HB0.out HB0.out.size (by simp; omega) ?_; intro v4 w4 hv4 hb4 hg4 hx4; rw [List.nil_append] at hv4; have HV4 := Aside0.mk hv4; have HB4 := Aside0.mk hb4; obtain ⟨A4, c4, e4⟩ := Kd.R_slice hv4; subst e4; clear hv4 hb4 hg4 hx4) | (at_builtin; refine Kd.R_append k75 (w0 := wy) wy.heap.size rfl (.tmp 84) (.tmp 88) 32 75 (.agg #[(.string ⟨#[]⟩), (.int .i64 0), (.int .i64 0)]) 32 rfl Try.underlying32 info75 rfl (by decide) (by omega) (.slice A4 L2.length c4) L2 ⟨key, 0, u⟩ [.string key, .int .i64 0, .int .i64 u] (fun _ => True) (fun _ => False) rfl rfl (k75_mkM _ _ _ _) (fun _ h => h.elim) (fun _ _ => trivial) HV4.out HB4.out HB4.out.size (by omega) ?_; intro v5 w5 hv5 hb5 hg5 hx5; obtain ⟨A5, c5, e5⟩ := Kd.R_slice hv5; subst e5; have cf := (HY.out.movedN (Frm.of_below (F := fun _ => False) hb5)).c1; have fz := blk_frozen (HY.out.movedN (Frm.of_below (F := fun _ => False) hb5)).hd 1; have HD := Aside0.mk (HY.out.renew hv5 hb5 (by rw [List.length_append, List.length_singleton]; have := HL1.out; omega)); have HKE := Aside0.mk (HK.out.trans (KE.store hb5 HY.out.hd 1 (.slice A5 (L2 ++ [(⟨key, 0, u⟩ : S75)]).length c5))); rw [List.length_append, List.length_singleton] at HKE; clear hv5 hb5 hg5 hx5))
        go_end0
        exact ⟨rfl, _, _, _, by have h9 := HD.out; rw [show (L2 ++ [(⟨key, 0, u⟩ : S75)]).length = L2.length + 1 by rw [List.length_append, List.length_singleton]] at h9; exact h9, .inr ⟨HU.out.1, HU.out.2, L2, HREL.out, rfl⟩, HKE.out⟩
      · have d3 : decide (most ≤ L2.length) = true := decide_eq_true (by omega)
        have d4 : decide ((most : Int) ≤ (L2.length : Int)) = true := decide_eq_true (by omega)
        have hN2 : L2.length ≤ 1000000 := by have := HLL.out; omega
        obtain ⟨j, hj1, hj2, hj3⟩ := first_f L2 hN2 (by have := HU.out; omega)
        have HFI := Lib.hid hj1
        have HDR := Lib.hid (drop_f L2 hN2 j hj2)
        have HREL : Hid (dgoR most L key n (cutAt L2 j)) := Lib.hid (.inr ⟨HNO.out, .inr ⟨HG.out, .inr (by rw [← HL2.out]; exact ⟨by omega, j, hj2, hj3, rfl⟩)⟩⟩)
        have HL1 : Hid ((cutAt L2 j).length < most) := Lib.hid (by have := cut_len hj2; have := H3.out.few; omega)
        obtain ⟨L1, hL1⟩ : ∃ L1, L1 = cutAt L2 j := ⟨_, rfl⟩
        have HDR : Hid (turncockref20_drop.f L2 (j : Int) = some L1) := Lib.hid (by rw [hL1]; exact HDR.out)
        rw [← hL1] at HREL HL1
        clear hg2 hj1 hj3 hL1
        go_region_held3 (fun w' => w'.cell? ⟨r, 0, none⟩ = some (.int .i64 (most : Int)) ∧ w'.cell? ⟨r, 1, none⟩ = some (.slice A1 L2.length c1')) (go_keep) (fail)
        have H4 := Aside0.mk (H3.out.movedN ((Frm.refl _ wz3).drew))
        have HK4 := Aside0.mk (HK3.out.trans (KE.of_frm ((Frm.refl (fun _ => False) wz3).drew)))
        generalize wz3.drew = wz4 at *
        clear c0 c1 d3 d4
        have c1 := H4.out.c1
        have H4d := Aside0.mk (H4.out.movedN ((Frm.refl _ wz4).drew))
        have HK4d := Aside0.mk (HK4.out.trans (KE.of_frm ((Frm.refl (fun _ => False) wz4).drew)))
        go_upto_region 7 with (fail)
        go_region_with (first
          | (go_at_call 42; refine (turncockref20_first.calls (L2.length + 1) A1 c1' L2 (j : Int) _ (Kd.R_reads' H4d.out.row).2.2 (Kd.R_reads' H4d.out.row).2.1 HFI.out).mono ?_; rintro e w6 ⟨rfl, hb6⟩; have H6 := Aside0.mk (H4d.out.movedN (Frm.of_below (F := fun _ => False) hb6)); have HK6 := Aside0.mk (HK4d.out.trans (KE.of_frm (Frm.of_below (F := fun _ => False) hb6))); have x6 := H6.out.c1; clear hb6)
          | (go_at_call 40; refine (turncockref20_drop.calls A1 c1' L2 (j : Int) _ _ (Kd.R_reads' H6.out.row).2.2 (Kd.R_reads' H6.out.row).2.1 HDR.out).mono ?_; rintro e w7 ⟨v7, rfl, hv7, hb7⟩; obtain ⟨A7, c7, e7⟩ := Kd.R_slice hv7; subst e7; have x7 := (H6.out.movedN (Frm.of_below (F := fun _ => False) hb7)).c1; have fz := blk_frozen (H6.out.movedN (Frm.of_below (F := fun _ => False) hb7)).hd 1; have HY := Aside0.mk (H6.out.renew hv7 hb7 (Nat.le_of_lt HL1.out)); have HK := Aside0.mk (HK6.out.trans (KE.store hb7 H6.out.hd 1 (.slice A7 L1.length c7))); clear hv7 hb7))
        all_goals generalize w7.setCell ⟨r, 1, none⟩ (.slice A7 L1.length c7) = wy at *
        all_goals clear x6 x7 fz c1
        all_goals (
          have cc := HY.out.c1
          have ca : (wy.alloc (.cells #[] 75)).cell? ⟨r, 1, none⟩ = some (.slice A7 L1.length c7) := ((Frm.refl (fun _ => False) wy).alloc _).cell cc (fun e => e)
          have HC := Aside0.mk (Kd.C_below (Kd.R_reads' HY.out.row).2.2 (below_alloc (Below.refl _ _) (.cells #[] 75)))
          have HL0 := Aside0.mk (lit75 wy)
          have HB0 := Aside0.mk (below_alloc (Below.refl wy.heap.size wy) (.cells #[] 75))
          have hb1 := HY.out.few
          have hb2 := HY.out.big
          go_wp2_with (first | (at_builtin; refine Kd.R_append_rows k75 (w0 := wy) wy.heap.size rfl (.tmp 79) (.tmp 83) 32 75 (.agg #[(.string ⟨#[]⟩), (.int .i64 0), (.int .i64 0)]) 32 rfl Try.underlying32 info75 rfl (by decide) (by omega) (.slice (some ⟨wy.heap.size, 0, none⟩) 0 0) [] L1 A7 L1.length c7 (fun _ => True) (fun _ => False) rfl rfl HL0.out HC.out (k75_KM _ _ _) (fun _ h => h.elim) (fun _ _ => trivial) HB0.out HB0.out.size (by simp; omega) ?_; intro v4 w4 hv4 hb4 hg4 hx4; rw [List.nil_append] at hv4; have HV4 := Aside0.mk hv4; have HB4 := Aside0.mk hb4; obtain ⟨A4, c4, e4⟩ := Kd.R_slice hv4; subst e4; clear hv4 hb4 hg4 hx4) | (at_builtin; refine Kd.R_append k75 (w0 := wy) wy.heap.size rfl (.tmp 84) (.tmp 88) 32 75 (.agg #[(.string ⟨#[]⟩), (.int .i64 0), (.int .i64 0)]) 32 rfl Try.underlying32 info75 rfl (by decide) (by omega) (.slice A4 L1.length c4) L1 ⟨key, 0, u⟩ [.string key, .int .i64 0, .int .i64 u] (fun _ => True) (fun _ => False) rfl rfl (k75_mkM _ _ _ _) (fun _ h => h.elim) (fun _ _ => trivial) HV4.out HB4.out HB4.out.size (by omega) ?_; intro v5 w5 hv5 hb5 hg5 hx5; obtain ⟨A5, c5, e5⟩ := Kd.R_slice hv5; subst e5; have cf := (HY.out.movedN (Frm.of_below (F := fun _ => False) hb5)).c1; have fz := blk_frozen (HY.out.movedN (Frm.of_below (F := fun _ => False) hb5)).hd 1; have HD := Aside0.mk (HY.out.renew hv5 hb5 (by rw [List.length_append, List.length_singleton]; have := HL1.out; omega)); have HKE := Aside0.mk (HK.out.trans (KE.store hb5 HY.out.hd 1 (.slice A5 (L1 ++ [(⟨key, 0, u⟩ : S75)]).length c5))); rw [List.length_append, List.length_singleton] at HKE; clear hv5 hb5 hg5 hx5))
          go_end0
          exact ⟨rfl, _, _, _, by have h9 := HD.out; rw [show (L1 ++ [(⟨key, 0, u⟩ : S75)]).length = L1.length + 1 by rw [List.length_append, List.length_singleton]] at h9; exact h9, .inr ⟨HU.out.1, HU.out.2, L1, HREL.out, rfl⟩, HKE.out⟩)
  · have d5 : decide ((0 : Int) ≤ (j : Int)) = true := decide_eq_true (by omega)
    have HDR := Lib.hid (drop_f L hN j hj)
    have HREL : Hid (dgoR most L key n (cutAt L j)) := Lib.hid (.inl ⟨j, hj, hk, rfl⟩)
    have HL1 : Hid ((cutAt L j).length < most) := Lib.hid (by have := cut_len hj; have := H.out.few; omega)
    clear hk
    go_enter Try.func15, Try.ntmps15
    go_wp2_with fail
    (with_reducible refine (turncockref20_find.calls (L.length + 1) A c L key (j : Int) _ HR.out.2.2 HR.out.2.1 HV.out).mono ?_); rintro e w1 ⟨rfl, q, rfl⟩
    have H1 := Aside0.mk (H.out.movedN ((Frm.refl _ w).drewN q))
    have HK1 := Aside0.mk (KE.of_frm ((Frm.refl (fun _ => False) w).drewN q))
    generalize w.drewN q = wz at *
    have c1 := H1.out.c1
    have HR1 := Aside0.mk (Kd.R_reads' H1.out.row)
    go_wp2_with fail
    (with_reducible refine (turncockref20_drop.calls A c L (j : Int) _ _ HR1.out.2.2 HR1.out.2.1 HDR.out).mono ?_); rintro e w4 ⟨v4, rfl, hv4, hb4⟩
    have hv4 : Kd.R k75 75 w4 wz.heap.size (fun _ => True) v4 (cutAt L j) := hv4
    obtain ⟨L1, hL1⟩ : ∃ L1, L1 = cutAt L j := ⟨_, rfl⟩
    rw [← hL1] at hv4 HREL HL1
    obtain ⟨A1, c1', e4⟩ := Kd.R_slice hv4
    subst e4
    have cf := (H1.out.movedN (Frm.of_below (F := fun _ => False) hb4)).c1
    have fz := blk_frozen (H1.out.movedN (Frm.of_below (F := fun _ => False) hb4)).hd 1
    have HY := Aside0.mk (H1.out.renew hv4 hb4 (Nat.le_of_lt HL1.out))
    have HK := Aside0.mk (HK1.out.trans (KE.store hb4 H1.out.hd 1 (.slice A1 L1.length c1')))
    clear hv4 hb4 hL1 HDR
    go_upto_region 8 with (fail)
    generalize w4.setCell ⟨r, 1, none⟩ (.slice A1 L1.length c1') = wy at *
    clear cf fz c1
    have cc := HY.out.c1
    have ca : (wy.alloc (.cells #[] 75)).cell? ⟨r, 1, none⟩ = some (.slice A1 L1.length c1') := ((Frm.refl (fun _ => False) wy).alloc _).cell cc (fun e => e)
    have HC := Aside0.mk (Kd.C_below (Kd.R_reads' HY.out.row).2.2 (below_alloc (Below.refl _ _) (.cells #[] 75)))
    have HL0 := Aside0.mk (lit75 wy)
    have HB0 := Aside0.mk (below_alloc (Below.refl wy.heap.size wy) (.cells #[] 75))
    have hb1 := HY.out.few
    have hb2 := HY.out.big
    go_wp2_with (first | (at_builtin; refine Kd.R_append_rows k75 (w0 := wy) wy.heap.size rfl (.tmp 79) (.tmp 83) 32 75 (.agg #[(.string ⟨#[]⟩), (.int .i64 0), (.int .i64 0)]) 32 rfl Try.underlying32 info75 rfl (by decide) (by omega) (.slice (some ⟨wy.heap.size, 0, none⟩) 0 0) [] L1 A1 L1.length c1' (fun _ => True) (fun _ => False) rfl rfl HL0.out HC.out (k75_KM _ _ _) (fun _ h => h.elim) (fun _ _ => trivial) HB0.out HB0.out.size (by simp; omega) ?_; intro v4 w4 hv4 hb4 hg4 hx4; rw [List.nil_append] at hv4; have HV4 := Aside0.mk hv4; have HB4 := Aside0.mk hb4; obtain ⟨A4, c4, e4⟩ := Kd.R_slice hv4; subst e4; clear hv4 hb4 hg4 hx4) | (at_builtin; refine Kd.R_append k75 (w0 := wy) wy.heap.size rfl (.tmp 84) (.tmp 88) 32 75 (.agg #[(.string ⟨#[]⟩), (.int .i64 0), (.int .i64 0)]) 32 rfl Try.underlying32 info75 rfl (by decide) (by omega) (.slice A4 L1.length c4) L1 ⟨key, 0, u⟩ [.string key, .int .i64 0, .int .i64 u] (fun _ => True) (fun _ => False) rfl rfl (k75_mkM _ _ _ _) (fun _ h => h.elim) (fun _ _ => trivial) HV4.out HB4.out HB4.out.size (by omega) ?_; intro v5 w5 hv5 hb5 hg5 hx5; obtain ⟨A5, c5, e5⟩ := Kd.R_slice hv5; subst e5; have cf := (HY.out.movedN (Frm.of_below (F := fun _ => False) hb5)).c1; have fz := blk_frozen (HY.out.movedN (Frm.of_below (F := fun _ => False) hb5)).hd 1; have HD := Aside0.mk (HY.out.renew hv5 hb5 (by rw [List.length_append, List.length_singleton]; have := HL1.out; omega)); have HKE := Aside0.mk (HK.out.trans (KE.store hb5 HY.out.hd 1 (.slice A5 (L1 ++ [(⟨key, 0, u⟩ : S75)]).length c5))); rw [List.length_append, List.length_singleton] at HKE; clear hv5 hb5 hg5 hx5))
    go_end0
    exact ⟨rfl, _, _, _, by have h9 := HD.out; rw [show (L1 ++ [(⟨key, 0, u⟩ : S75)]).length = L1.length + 1 by rw [List.length_append, List.length_singleton]] at h9; exact h9, .inr ⟨HU.out.1, HU.out.2, L1, HREL.out, rfl⟩, HKE.out⟩
end
end Go.Proofs.Ytehlhaddbfjllaa.Mp
