/- What the law TrieFits uses, thinned: printed by shake2.py. -/
import Derived.Test.YtipbigdpannlcaaTTrieFitsOTL1
namespace Go.Proofs.Ytipbigdpannlcaa.Tr
open Go.RowKit Go.Proofs.Ytipbigdpannlcaa.PTrieFits Go.Proofs.Ytipbigdpannlcaa.Pure Go.Proofs.YtipbigdpannlcaaW.PrintWords Go.Proofs.YtipbigdpannlcaaW.PrintLast Go.Proofs.YtipbigdpannlcaaW.PrintMore
set_option maxRecDepth 100000
set_option linter.unusedVariables false
set_option linter.unusedSimpArgs false
section
variable {w0 w W W' : World} {g cb z : Nat} {L : List Int} {p : Int} {vD vB : Value} {ds : List DO} {bs : List BR}
theorem doms_call (h : CI w0 W g cb z L p vD vB ds bs) :
    Calls Try.prog 19 #[] W fun e W' => ∃ gk c, e = .returned (.slice (some ⟨gk, 0, none⟩) 3 c) ∧ Kd.string.R 9 W' 0 (fun _ => True) (.slice (some ⟨gk, 0, none⟩) 3 c) domsL ∧ CI w0 W' g cb z L p vD vB ds bs ∧ Below W.heap.size W W' := by
  refine (turncockmake_Domains.calls domsL W rfl).mono ?_
  rintro e W' ⟨v, rfl, hR, hb⟩
  obtain ⟨g', cap, rfl, hlo, _⟩ := Kd.R_form hR (by decide)
  exact ⟨g', cap, rfl, Kd.R_lower (Kd.R_mono hR (fun _ _ => trivial)) (Nat.zero_le _), h.below hb, hb⟩
theorem nxC_call0 (hL : L.length ≤ 1000000) (h : CI w0 W g cb z L p vD vB ds bs) (hp : TS L p) {n : Int} (h0 : 0 < n) (h1 : n ≤ 1000) :
    Calls Try.prog 18 #[.pointer (some ⟨g, 0, none⟩), .int .i64 n] W fun e W' => e = .returned (.int .i64 (nx L p n).1) ∧ CI w0 W' g cb z L (nx L p n).2 vD vB ds bs :=
  (turncockmake_Tape_Next.calls g L p n _ _ w0 W h.tp h.bl (nx_f hL hp h0 h1).1).mono fun e W' ⟨a, b, c, d⟩ => ⟨a, h.step b c d⟩
theorem nxC_call (hL : L.length ≤ 1000000) (h : CI w0 W g cb z L p vD vB ds bs) (hp : TS L p) {n q p' : Int} (e : nx L p n = (q, p')) (h0 : 0 < n) (h1 : n ≤ 1000) :
    Calls Try.prog 18 #[.pointer (some ⟨g, 0, none⟩), .int .i64 n] W fun e W' => e = .returned (.int .i64 q) ∧ CI w0 W' g cb z L p' vD vB ds bs := by
  have := nxC_call0 hL h hp h0 h1
  rw [e] at this
  exact this
end
theorem meas_cfg {q : Int} {k : Nat} (h : (k : Int) < 1 + q) {v : Value} (hv : v = .int .i64 ((k : Int) + 1)) : (1 + q - intOf v).toNat < (1 + q - intOf (.int .i64 (k : Int))).toNat := by subst hv; simp only [intOf]; omega
set_option maxHeartbeats 4000000 in
theorem config_any {w : World} {A : Option Addr} {cap : Nat} {L : List Int} (hL : L.length ≤ 1000000) (hk : kI.C w A L.length L) :
    Calls Try.prog 7 #[.slice A L.length cap] w fun e w' => ∃ v : CfV, e = .returned (v.val (mkCfg L)) ∧ CfC w' v (mkCfg L) ∧ Below w.heap.size w w' := by
  have HI0 : CI w (((w.alloc (.cells #[.slice none 0 0, .slice none 0 0] 27)).alloc (.cells #[.slice A L.length cap, .int .i64 0] 39)).alloc (.cells #[.slice none 0 0, .slice none 0 0] 27)) (w.heap.size + 1) (w.heap.size + 1 + 1) w.heap.size L 0 (.slice none 0 0) (.slice none 0 0) [] [] := by
    have a1 := blk_new (w.alloc (.cells #[.slice none 0 0, .slice none 0 0] 27)) (.cells #[.slice A L.length cap, .int .i64 0] 39)
    have a2 := blk_new ((w.alloc (.cells #[.slice none 0 0, .slice none 0 0] 27)).alloc (.cells #[.slice A L.length cap, .int .i64 0] 39)) (.cells #[.slice none 0 0, .slice none 0 0] 27)
    simp only [World.size_alloc] at a1 a2
    exact ⟨⟨A, cap, blk_alloc a1 _, by omega, hk⟩, below_alloc (below_alloc (below_alloc (Below.refl _ _) _) _) _, a2, blk_alloc (blk_alloc (blk_new w _) _) _, by omega, Nat.le_refl _, by omega, Kd.R_nil _ _ _ _ _, Kd.R_nil _ _ _ _ _⟩
  have HI1 := Aside0.mk HI0
  clear HI0 hk
  have hp0 : TS L 0 := ⟨by omega, by omega⟩
  obtain ⟨e0, a0, b0, t0⟩ := nx_f hL hp0 (n := 2) (by omega) (by omega)
  clear e0
  have hmk : mkCfg L = dl L (1 + (nx L 0 2).1).toNat 0 [] [] (nx L 0 2).2 := rfl
  obtain ⟨⟨q0, p0⟩, E0⟩ : ∃ q, nx L 0 2 = q := ⟨_, rfl⟩
  rw [E0] at a0 b0 t0 hmk
  dsimp only at a0 b0 t0 hmk
  obtain ⟨C, hC⟩ : ∃ C, C = mkCfg L := ⟨_, rfl⟩
  rw [← hC] at hmk
  rw [← hC]
  have HMK0 := Aside0.mk hmk
  have HT0 := Aside0.mk t0
  have HE0 := Aside0.mk E0
  clear hmk t0 E0 hC
  have w12 : wrap64 (1 + q0) = 1 + q0 := wrap_small (by omega) (by omega)
  go_enter Try.func7, Try.ntmps7
  go_wp2_with (first | ((with_reducible refine gate_callee (f := 18) rfl ?_); refine goesL_ (some 12) rfl rfl Try.func18 (by kernel_rfl) rfl #[.pointer (some ⟨w.heap.size + 1, 0, none⟩), .int .i64 2] rfl (by (try simp only [List.map_toArray, List.map_cons, List.map_nil]); first | done | rfl) ?_; (with_reducible refine (nxC_call hL HI1.out ⟨by omega, by omega⟩ HE0.out (by omega) (by omega)).mono ?_); rintro e w1 ⟨rfl, hi⟩; refine ⟨_, rfl, ?_⟩; have HI2 := Aside0.mk hi; clear hi HI1))
  try simp only [w12]
  generalize w.heap.size + 1 + 1 = cb at HI2 ⊢
  generalize w.heap.size + 1 = g at HI2 ⊢
  go_loopw [6] (fun i wr => ∃ (k : Nat) (p1 : Int) (vD vB : Value) (ds : List DO) (bs : List BR), i = .int .i64 (k : Int) ∧ (k : Int) ≤ 1 + q0 ∧ ds.length = k ∧ Aside0 (TS L p1) ∧ bs.length ≤ 40 ∧ Aside0 (∀ b ∈ bs, WfB b) ∧ Aside0 (dl L (1 + q0 - k).toNat k ds bs p1 = C) ∧ Aside0 (CI w wr g cb w.heap.size L p1 vD vB ds bs)) (fun i _ => (1 + q0 - intOf i).toNat)
  case atStart => exact ⟨0, p0, _, _, [], [], rfl, by omega, rfl, HT0, by simp, ⟨fun b hb => by cases hb⟩, ⟨by rw [HMK0.out]; simp⟩, HI2⟩
  case round =>
    obtain ⟨k, p1, vD, vB, ds, bs, rfl, hk1, hlen, HT1, h40, WF1, HW, HI2⟩ := hrel
    clear HMK0 HT0 HE0
    by_cases hlt : (k : Int) < 1 + q0
    · have d1 : decide ((k : Int) < 1 + q0) = true := decide_eq_true hlt
      have hw := HW.out
      obtain ⟨m, hm⟩ : ∃ m, (1 + q0 - (k : Int)).toNat = m + 1 := ⟨(1 + q0 - (k : Int)).toNat - 1, by omega⟩
      have HM2 := Aside0.mk (show (1 + q0 - ((k + 1 : Nat) : Int)).toNat = m by omega)
      have EW := Aside0.mk (wrap_small (x := (k : Int) + 1) (by omega) (by omega))
      rw [hm, dl] at hw
      have HW1 := Aside0.mk hw
      have HLN := Aside0.mk (show (ds.length + 1) * 40 ≤ 140737488355328 by omega)
      clear hw hm HW
      have hk3 : (k : Int) < 3 := by omega
      have hk0 : (0 : Int) ≤ (k : Int) := by omega
      go_upto_region 7 with fail
      replace HI2 := Aside0.mk HI2.out.drew
      refine start_ (n := 11) (S := fun w' => w'.cell? ⟨cb, 0, none⟩ = some vD) (ds := [10]) #[false, false, false, false, false, false, false, false, false, false, false] (by kernel_rfl) rfl rfl ((blk_cell HI2.out.cc 0).trans rfl) (fun hHeld => ?_)
      generalize wr.drew = W2 at *
      refine pure_ (i := 0) (N := (some 19)) (v := ?_) (a' := ?_) #[true, false, false, false, false, false, false, false, false, false, false] rfl rfl (by kernel_rfl) (fun _ _ _ h => h) (Or.inl ⟨by rfl, ?_⟩) ?_ ?_
      rotate_left
      · intro w'
        go_simp
        try with_reducible rfl
      rotate_left
      · simp only [Act.put, List.setIfInBounds_toArray, List.set_cons_zero, List.set_cons_succ, i64_w, i32_w]
        rfl
      refine pure_ (i := 3) (N := (some 22)) (v := ?_) (a' := ?_) #[true, false, false, true, false, false, false, false, false, false, false] rfl rfl (by kernel_rfl) (fun _ _ _ h => h) (Or.inl ⟨by rfl, ?_⟩) ?_ ?_
      rotate_left
      · intro w'
        go_simp
        try with_reducible rfl
      rotate_left
      · simp only [Act.put, List.setIfInBounds_toArray, List.set_cons_zero, List.set_cons_succ, i64_w, i32_w]
        rfl
      refine take_ (i := 1) (N := (some 20)) (v := ?_) (a' := ?_) #[true, true, false, true, false, false, false, false, false, false, false] rfl rfl (by kernel_rfl) (fun _ _ _ h => h) (Or.inl ⟨by rfl, ?_⟩) hHeld ?_ ?_
      rotate_left
      · intro w' s0
        have s0 := s0
        go_simp
        try with_reducible rfl
      rotate_left
      · simp only [Act.put, List.setIfInBounds_toArray, List.set_cons_zero, List.set_cons_succ, i64_w, i32_w]
        rfl
      refine one_ (i := 2) (N := (some 21)) #[true, true, true, true, false, false, false, false, false, false, false] rfl rfl (by kernel_rfl) (by decide) (fun K hK => ?_)
      refine goes_ Try.func19 (by kernel_rfl) rfl #[] (by rfl) rfl rfl (by first | rfl | simp) ?_
      (with_reducible refine (doms_call HI2.out).mono ?_)
      rintro e w5 ⟨gd, cd, rfl, hR, hi, hb⟩
      refine ⟨_, rfl, ?_⟩
      have HR := Aside0.mk hR
      have HI3 := Aside0.mk hi
      clear hi hb hR HI2
      refine hK.out _ _ ((blk_cell HI3.out.cc 0).trans rfl) (fun hHeld => ?_)
      clear hK K
      refine norm_ (a' := ?_) ?_ ?_
      rotate_left
      · show Act.put _ (some 21) _ = _
        simp only [Act.put, List.setIfInBounds_toArray, List.set_cons_zero, List.set_cons_succ, i64_w, i32_w]
        rfl
      refine pure_ (i := 4) (N := (some 23)) (v := ?_) (a' := ?_) #[true, true, true, true, true, false, false, false, false, false, false] rfl rfl (by kernel_rfl) (fun _ _ _ h => h) (Or.inl ⟨by rfl, ?_⟩) ?_ ?_
      rotate_left
      · intro w'
        go_simp
        try with_reducible rfl
      rotate_left
      · simp only [Act.put, List.setIfInBounds_toArray, List.set_cons_zero, List.set_cons_succ, i64_w, i32_w]
        rfl
      refine one_ (i := 5) (N := (some 24)) #[true, true, true, true, true, true, false, false, false, false, false] rfl rfl (by kernel_rfl) (by decide) (fun K hK => ?_)
      obtain ⟨nm, hnm⟩ : ∃ x, x = domsL.getD k ⟨#[]⟩ := ⟨_, rfl⟩
      have hc : w5.cell? ⟨gd, k, none⟩ = some (Value.string nm) := by
        have := (Kd.R_celln ByteArray.empty HR.out (k : Int) (by omega) (by show (k : Int) < 3; omega)).1
        rw [rdD, Int.toNat_natCast, ← hnm] at this
        exact this
      have HNM := Aside0.mk hnm
      clear hnm HR
      refine value_ (w1 := ?_) (v := ?_) (by rfl) rfl ?_ ?_
      rotate_left 2
      · go_simp
        constructor
        · rfl
        · rfl
      clear hc
      refine hK.out _ _ hHeld (fun hHeld => ?_)
      clear hK K
      refine norm_ (a' := ?_) ?_ ?_
      rotate_left
      · show Act.put _ (some 24) _ = _
        simp only [Act.put, List.setIfInBounds_toArray, List.set_cons_zero, List.set_cons_succ, i64_w, i32_w]
        rfl
      refine pure_ (i := 6) (N := (some 25)) (v := ?_) (a' := ?_) #[true, true, true, true, true, true, true, false, false, false, false] rfl rfl (by kernel_rfl) (fun _ _ _ h => h) (Or.inl ⟨by rfl, ?_⟩) ?_ ?_
      rotate_left
      · intro w'
        go_simp
        try with_reducible rfl
      rotate_left
      · simp only [Act.put, List.setIfInBounds_toArray, List.set_cons_zero, List.set_cons_succ, i64_w, i32_w]
        rfl
      refine one_ (i := 7) (N := (some 26)) #[true, true, true, true, true, true, true, true, false, false, false] rfl rfl (by kernel_rfl) (by decide) (fun K hK => ?_)
      refine value_ (w1 := ?_) (v := ?_) (by rfl) rfl ?_ ?_
      rotate_left 2
      · go_simp
        constructor
        · rfl
        · rfl
      refine hK.out _ _ (pw_cell_below (below_alloc (Below.refl _ _) _) hHeld) (fun hHeld => ?_)
      clear hK K
      refine norm_ (a' := ?_) ?_ ?_
      rotate_left
      · show Act.put _ (some 26) _ = _
        simp only [Act.put, List.setIfInBounds_toArray, List.set_cons_zero, List.set_cons_succ, i64_w, i32_w]
        rfl
      refine one_ (i := 8) (N := (some 27)) #[true, true, true, true, true, true, true, true, true, false, false] rfl rfl (by kernel_rfl) (by decide) (fun K hK => ?_)
      have HRD := Aside0.mk HI3.out.rd
      have HBL := Aside0.mk HI3.out.bl
      have HSZ := Aside0.mk HI3.out.bl.size
      have HMK := Aside0.mk (k53_mkM w5 w.heap.size (fun _ => False) (⟨nm, []⟩ : DO) (v1 := .slice none 0 0) (Kd.R_nil _ _ _ _ _))
      refine Kd.R_append_step kD (w0 := w) w.heap.size ?_ (.tmp 20) (.tmp 26) 24 53 (.agg #[(.string ⟨#[]⟩), (.slice none 0 0)]) 40 rfl Try.underlying24 info53 rfl (by decide) (by omega) vD ds (⟨nm, []⟩ : DO) [.string nm, .slice none 0 0] (fun _ => True) (fun _ => False) rfl rfl HMK.out (fun _ hk => hk.elim) (fun _ _ => trivial) HRD.out HBL.out HSZ.out HLN.out ?_
      · rfl
      intro v1 w1 hr1 hb1 hg1 hat1
      have hh1 := (hg1.block _ (blk_lt HI3.out.cc) (Kd.R_ne HI3.out.rd HI3.out.cc (by decide))).trans HI3.out.cc
      have f1 := blk_frozen hh1 0
      have f2 : w1.cell? ⟨cb, 0, none⟩ = some vD := (blk_cell hh1 0).trans rfl
      have HI4 := Aside0.mk (HI3.out.push hg1 hb1 hr1)
      obtain ⟨Av, cv, hv1⟩ := Kd.R_slice hr1
      obtain ⟨ds1, hds1⟩ : ∃ d, d = ds ++ [(⟨nm, []⟩ : DO)] := ⟨_, rfl⟩
      rw [← hds1] at hv1 HI4
      have HDS := Aside0.mk hds1
      obtain ⟨nd, hnd⟩ : ∃ n, n = ds1.length := ⟨_, rfl⟩
      rw [← hnd] at hv1
      have HND := Aside0.mk hnd
      subst hv1
      clear hr1 hb1 hg1 hat1 hh1 HRD HBL HSZ HMK HI3 hds1 hnd
      refine hK.out _ _ f2 (fun hHeld => ?_)
      clear hK K
      refine norm_ (a' := ?_) ?_ ?_
      rotate_left
      · show Act.put _ (some 27) _ = _
        simp only [Act.put, List.setIfInBounds_toArray, List.set_cons_zero, List.set_cons_succ, i64_w, i32_w]
        rfl
      refine pure_ (i := 9) (N := (some 28)) (v := ?_) (a' := ?_) #[true, true, true, true, true, true, true, true, true, true, false] rfl rfl (by kernel_rfl) (fun _ _ _ h => h) (Or.inl ⟨by rfl, ?_⟩) ?_ ?_
      rotate_left
      · intro w'
        go_simp
        try with_reducible rfl
      rotate_left
      · simp only [Act.put, List.setIfInBounds_toArray, List.set_cons_zero, List.set_cons_succ, i64_w, i32_w]
        rfl
      refine last_ (i := 10) (N := none) #[true, true, true, true, true, true, true, true, true, true, true] rfl rfl (by kernel_rfl) (by decide) (fun K hK => ?_)
      refine skip_ (w1 := ?_) (by rfl) rfl ?_ ?_
      rotate_left
      · go_simp
        rfl
      refine hK.out _ _ ?_
      clear hK K
      refine done_ (by kernel_rfl) ?_
      by_cases h0 : k = 0
      · subst h0
        have hw := HW1.out
        rw [if_pos rfl, show ((0 : Nat) : Int) = (0 : Int) from rfl] at hw
        have HW2 := Aside0.mk hw
        clear hw HW1
        go_wp2_with fail
        have hcall := branch_any hL HI4.out.lc (0 : Int) 3 (-1) HT1.out h40 WF1.out (by omega) HI4.out.enter
        rw [show (4 - ((3 : Nat) : Int)) = 1 by decide] at hcall
        (with_reducible refine hcall.mono ?_)
        clear hcall
        rintro e w7 ⟨vk, vB2, rfl, hK⟩
        obtain ⟨hci, hkk⟩ := HI4.out.leave hK
        obtain ⟨_, mhi, _, mwf, mts, _⟩ := brs_wk hL (0 : Int) h40 WF1.out HT1.out
        obtain ⟨r, hr⟩ : ∃ r, r = brs L (0 : Int) 4 (-1) bs p1 := ⟨_, rfl⟩
        rw [show (3 + 1 : Nat) = 4 from rfl, ← hr] at hci hkk
        rw [← hr] at mhi mwf mts HW2
        have HMH := Aside0.mk mhi
        have HMW := Aside0.mk mwf
        have HMT := Aside0.mk mts
        have HR9 := Aside0.mk hr
        clear hK hr mhi mwf mts
        have hl1 : ds1.length = 0 + 1 := by rw [HDS.out, List.length_append, hlen]; rfl
        obtain ⟨gD, capD, evD, _, _⟩ := Kd.R_form hci.rd (by omega)
        rw [← HND.out] at evD
        injection evD with evA _ evC
        subst evA
        subst evC
        obtain ⟨Avk, cvk, evk⟩ := Kd.R_slice hkk
        subst evk
        have HST := Aside0.mk (hci.setk (P := Try.prog) (by rw [← HND.out]) (n := 0) (by omega) hkk 22 (by kernel_rfl))
        have g12 : w7.cell? ⟨cb, 0, none⟩ = some (.slice (some ⟨gD, 0, none⟩) nd cv) := (blk_cell hci.cc 0).trans rfl
        have hnd2 : nd = 0 + 1 := HND.out.trans hl1
        clear hci hkk HI4
        go_wp2_with (first | ((with_reducible refine gate_ (.store 22 (.tmp 44) (.tmp 42)) rfl ?_); refine Aside0.out ?_))
        refine ⟨?_⟩
        refine store_run rfl rfl rfl rfl rfl HST.out.1 ?_
        have hgd : (ds1.getD 0 zD).f0 = nm := by rw [HDS.out, List.eq_nil_of_length_eq_zero hlen]; rfl
        have hset : ds1.set 0 ⟨nm, r.1⟩ = ds ++ [⟨nm, r.1⟩] := by rw [HDS.out, List.eq_nil_of_length_eq_zero hlen]; rfl
        have hst := HST.out.2
        rw [hgd, hset] at hst
        have HI9 := Aside0.mk hst
        clear hst HST g12 hgd hset
        generalize w7.setCells gD (0 * 2 + 1) [.slice Avk r.1.length cvk] = W9 at *
        go_wp2
        go_roundw
        case rel => exact ⟨0 + 1, r.2.2, _, _, ds ++ [⟨nm, r.1⟩], r.2.1, by first | rfl | (rw [EW.out]), by omega, by rw [List.length_append, hlen]; rfl, HMT, HMH.out, HMW, ⟨by rw [HM2.out, HNM.out]; exact HW2.out⟩, HI9⟩
        case measure => exact meas_cfg hlt (by first | rfl | rw [EW.out])
      · have hw := HW1.out
        rw [if_neg h0] at hw
        have d2 : decide ((k : Int) = 0) = false := decide_eq_false (by omega)
        have d3 : ((k : Int) == 0) = false := beq_eq_false_iff_ne.2 (by omega)
        obtain ⟨e7, a7, b7, t7⟩ := nx_f hL HT1.out (n := 2) (by omega) (by omega)
        clear e7
        obtain ⟨⟨q7, p7⟩, E7⟩ : ∃ q, nx L p1 2 = q := ⟨_, rfl⟩
        rw [E7] at a7 b7 t7 hw
        dsimp only at a7 b7 t7 hw
        have HE7 := Aside0.mk E7
        have HT7 := Aside0.mk t7
        have HW3 := Aside0.mk hw
        clear E7 t7 hw HW1
        go_upto_if 35 with (first | ((with_reducible refine gate_callee (f := 18) rfl ?_); refine Aside0.out ?_))
        refine ⟨?_⟩
        refine goesW_ (some 33) rfl Try.func18 (by kernel_rfl) rfl #[.pointer (some ⟨g, 0, none⟩), .int .i64 2] rfl (by (try simp only [List.map_toArray, List.map_cons, List.map_nil]); first | done | rfl) (by rfl) ?_
        (with_reducible refine (nxC_call hL HI4.out HT1.out HE7.out (by omega) (by omega)).mono ?_)
        rintro e w6 ⟨rfl, hi⟩
        refine ⟨_, rfl, ?_⟩
        have HI5 := Aside0.mk hi
        clear hi HI4
        go_upto_if 35 with fail
        by_cases h7 : q7 = 0
        · subst h7
          have hw := HW3.out
          rw [if_pos rfl] at hw
          have HW2 := Aside0.mk hw
          clear hw HW3
          go_wp2_with fail
          have hcall := branch_any hL HI5.out.lc (k : Int) 3 (-1) HT7.out h40 WF1.out (by omega) HI5.out.enter
          rw [show (4 - ((3 : Nat) : Int)) = 1 by decide] at hcall
          (with_reducible refine hcall.mono ?_)
          clear hcall
          rintro e w7 ⟨vk, vB2, rfl, hK⟩
          obtain ⟨hci, hkk⟩ := HI5.out.leave hK
          obtain ⟨_, mhi, _, mwf, mts, _⟩ := brs_wk hL (k : Int) h40 WF1.out HT7.out
          obtain ⟨r, hr⟩ : ∃ r, r = brs L (k : Int) 4 (-1) bs p7 := ⟨_, rfl⟩
          rw [show (3 + 1 : Nat) = 4 from rfl, ← hr] at hci hkk
          rw [← hr] at mhi mwf mts HW2
          have HMH := Aside0.mk mhi
          have HMW := Aside0.mk mwf
          have HMT := Aside0.mk mts
          have HR9 := Aside0.mk hr
          clear hK hr mhi mwf mts
          have hl1 : ds1.length = k + 1 := by rw [HDS.out, List.length_append, hlen]; rfl
          obtain ⟨gD, capD, evD, _, _⟩ := Kd.R_form hci.rd (by omega)
          rw [← HND.out] at evD
          injection evD with evA _ evC
          subst evA
          subst evC
          obtain ⟨Avk, cvk, evk⟩ := Kd.R_slice hkk
          subst evk
          have HST := Aside0.mk (hci.setk (P := Try.prog) (by rw [← HND.out]) (n := k) (by omega) hkk 22 (by kernel_rfl))
          have g12 : w7.cell? ⟨cb, 0, none⟩ = some (.slice (some ⟨gD, 0, none⟩) nd cv) := (blk_cell hci.cc 0).trans rfl
          have hnd2 : nd = k + 1 := HND.out.trans hl1
          clear hci hkk HI5
          go_wp2_with (first | ((with_reducible refine gate_ (.store 22 (.tmp 44) (.tmp 42)) rfl ?_); refine Aside0.out ?_))
          refine ⟨?_⟩
          refine store_run rfl rfl rfl rfl rfl HST.out.1 ?_
          have hgd : (ds1.getD k zD).f0 = nm := by rw [HDS.out, ← hlen]; simp
          have hset : ds1.set k ⟨nm, r.1⟩ = ds ++ [⟨nm, r.1⟩] := by rw [HDS.out, ← hlen]; simp
          have hst := HST.out.2
          rw [hgd, hset] at hst
          have HI9 := Aside0.mk hst
          clear hst HST g12 hgd hset
          generalize w7.setCells gD (k * 2 + 1) [.slice Avk r.1.length cvk] = W9 at *
          go_wp2
          go_roundw
          case rel => exact ⟨k + 1, r.2.2, _, _, ds ++ [⟨nm, r.1⟩], r.2.1, by first | rfl | (rw [EW.out]), by omega, by rw [List.length_append, hlen]; rfl, HMT, HMH.out, HMW, ⟨by rw [HM2.out, HNM.out]; exact HW2.out⟩, HI9⟩
          case measure => exact meas_cfg hlt (by first | rfl | rw [EW.out])
        · have hw := HW3.out
          rw [if_neg h7] at hw
          have HW2 := Aside0.mk hw
          have d7 : decide (q7 = 0) = false := decide_eq_false h7
          have d8 : (q7 == 0) = false := beq_eq_false_iff_ne.2 h7
          clear hw HW3
          have HNW := Aside0.mk (show ds1 = ds ++ [⟨domsL.getD k ⟨#[]⟩, []⟩] by rw [HDS.out, HNM.out])
          go_wp2
          go_roundw
          case rel => exact ⟨k + 1, p7, _, _, ds1, bs, by first | rfl | (rw [EW.out]), by omega, by rw [HDS.out, List.length_append, hlen]; rfl, HT7, h40, WF1, ⟨by rw [HM2.out, HNW.out]; exact HW2.out⟩, HI5⟩
          case measure => exact meas_cfg hlt (by first | rfl | rw [EW.out])
    · have d1 : decide ((k : Int) < 1 + q0) = false := decide_eq_false hlt
      have hw := HW.out
      rw [show (1 + q0 - (k : Int)).toNat = 0 by omega, dl] at hw
      have HW2 := Aside0.mk hw
      obtain ⟨Ad, cd, evd⟩ := Kd.R_slice HI2.out.rd
      obtain ⟨Ab, cb1, evb⟩ := Kd.R_slice HI2.out.rb
      obtain ⟨nd, hnd⟩ : ∃ n, n = ds.length := ⟨_, rfl⟩
      obtain ⟨nb, hnb⟩ : ∃ n, n = bs.length := ⟨_, rfl⟩
      rw [← hnd] at evd
      rw [← hnb] at evb
      subst evd
      subst evb
      have HND := Aside0.mk hnd
      have HNB := Aside0.mk hnb
      clear hw HW hnd hnb
      have g0 : wr.cell? ⟨cb, 0, none⟩ = some (.slice Ad nd cd) := (blk_cell HI2.out.cc 0).trans rfl
      have g1 : wr.cell? ⟨cb, 1, none⟩ = some (.slice Ab nb cb1) := (blk_cell HI2.out.cc 1).trans rfl
      go_wp2_with (first | ((with_reducible refine gate_ (.store 27 (.tmp 2) (.tmp 45)) rfl ?_); refine Aside0.out ?_))
      refine ⟨?_⟩
      refine store_at (x := w.heap.size) (o := 0) (u := .agg #[.slice Ad nd cd, .slice Ab nb cb1]) (seg := [.slice Ad nd cd, .slice Ab nb cb1]) rfl rfl rfl rfl rfl HI2.out.zz rfl (by kernel_rfl) (show 0 + 2 ≤ 2 by decide) (by intro q hq; simp only [List.mem_cons, List.not_mem_nil, or_false] at hq; rcases hq with rfl | rfl <;> rfl) ?_
      have hz5 := blk_cells (o := 0) (seg := [.slice Ad nd cd, .slice Ab nb cb1]) (cur' := #[.slice Ad nd cd, .slice Ab nb cb1]) HI2.out.zz (show 0 + 2 ≤ 2 by decide) rfl
      have HFAR := Aside0.mk (fun k (hk : k ≠ w.heap.size) => setCells_far (g := w.heap.size) [.slice Ad nd cd, .slice Ab nb cb1] 0 (w := wr) k hk)
      have HSM := Aside0.mk (setCells_same w.heap.size [.slice Ad nd cd, .slice Ab nb cb1] 0 wr)
      generalize wr.setCells w.heap.size 0 [.slice Ad nd cd, .slice Ab nb cb1] = W5 at *
      have y0 : W5.cell? ⟨w.heap.size, 0, none⟩ = some (.slice Ad nd cd) := (blk_cell hz5 0).trans rfl
      have y1 : W5.cell? ⟨w.heap.size, 1, none⟩ = some (.slice Ab nb cb1) := (blk_cell hz5 1).trans rfl
      have HZ5 := Aside0.mk hz5
      clear g0 g1 hz5
      go_wp2
      refine bodyPost_ret (results_cell_row rfl _ _ w.heap.size 27 #[.slice Ad nd cd, .slice Ab nb cb1] (0, 0) _ rfl HZ5.out Try.underlying27 rfl (by kernel_rfl)) rfl ?_
      have rd5 := Kd.R_step (Kd.R_types HI2.out.rd HI2.out.zz kD_27) (fun k hk _ => HFAR.out k hk.2)
      have rb5 := Kd.R_step (Kd.R_types HI2.out.rb HI2.out.zz kB_27) (fun k hk _ => HFAR.out k hk.2)
      obtain ⟨_, hld, hcd⟩ := Kd.R_reads' rd5
      obtain ⟨_, hlb, hcb⟩ := Kd.R_reads' rb5
      obtain ⟨s1, s2, s3, s4⟩ := HSM.out
      have hbl := HI2.out.bl
      rw [HND.out] at hld ⊢
      rw [HNB.out] at hlb ⊢
      rw [← HW2.out]
      exact ⟨⟨Ad, cd, Ab, cb1⟩, rfl, ⟨hcd, hcb, hld, hlb⟩, ⟨s1.trans hbl.os, s2.trans hbl.tape, s3.trans hbl.output, by rw [s4]; exact hbl.size, fun k hk => (HFAR.out k (by omega)).trans (hbl.block k hk)⟩⟩
end Go.Proofs.Ytipbigdpannlcaa.Tr
