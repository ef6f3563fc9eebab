/- What the law TrieFits uses, thinned: printed by shake2.py. -/
import Derived.Test.YtipbigdpannlcaaTTrieFitsOTL2
import Derived.Test.YtipbigdpannlcaaTTrieFitsOTLa
import Derived.Test.YtipbigdpannlcaaTTrieFitsOTN
import Derived.Test.YtipbigdpannlcaaTTrieFitsOTU
namespace Go.Proofs.Ytipbigdpannlcaa.Tr
open Go.RowKit Go.Proofs.Ytipbigdpannlcaa.PTrieFits Go.Proofs.Ytipbigdpannlcaa.Pure Go.Proofs.YtipbigdpannlcaaW.PrintWords Go.Proofs.YtipbigdpannlcaaW.PrintLast Go.Proofs.YtipbigdpannlcaaW.PrintMore
set_option maxRecDepth 100000
set_option linter.unusedVariables false
set_option linter.unusedSimpArgs false
theorem wf_cfg {c : Cfg} (h : MkOk c) : ∀ d ∈ c.ds, WfD d := fun d hd => by have := h.wd d hd; show d.f0.size ≤ 9223372036854775807; omega
theorem boxed (w : World) (cs0 : Array Value) (T : TypeId) (seg : List Value) (hs : seg.length = cs0.size) :
    Below w.heap.size w ((w.alloc (.cells cs0 T)).setCells w.heap.size 0 seg) ∧ ((w.alloc (.cells cs0 T)).setCells w.heap.size 0 seg).heap[w.heap.size]? = some (.cells seg.toArray T (0, 0)) := by
  obtain ⟨h1, h2, h3, h4⟩ := setCells_same w.heap.size seg 0 (w.alloc (.cells cs0 T))
  have hb := below_alloc (Below.refl w.heap.size w) (.cells cs0 T)
  refine ⟨⟨h1.trans hb.os, h2.trans hb.tape, h3.trans hb.output, by rw [h4]; exact hb.size, fun k hk => (setCells_far seg 0 k (by omega)).trans (hb.block k hk)⟩, ?_⟩
  refine blk_cells (o := 0) (cur := cs0) (blk_new w _) (by omega) ?_
  rw [Nat.zero_add, hs, ← Array.length_toList, List.drop_length]
  simp
theorem meas_fit {t : Nat} {v : Value} (hv : v = .int .i64 ((t : Int) - 1)) : (intOf v + 1).toNat < (intOf (.int .i64 (t : Int)) + 1).toNat := by subst hv; simp only [intOf]; omega
set_option maxHeartbeats 4000000 in
theorem fits_law {w : World} {A B : Option Addr} {ca cb : Nat} {N M : List Int} (hN : kI.C w A N.length N) (hM : kI.C w B M.length M) :
    Calls Try.prog 3 #[.slice A N.length ca, .slice B M.length cb] w fun e w' => e = .returned (.bool true) ∧ Below w.heap.size w w' := by
  have HN := Aside0.mk hN
  have HM := Aside0.mk hM
  clear hN hM
  by_cases h1 : 300 < (N.length : Int)
  · have d1 : decide (300 < (N.length : Int)) = true := decide_eq_true h1
    go_enter Try.func3, Try.ntmps3
    go_wp2_with fail
    (with_reducible refine (awake_any _).mono ?_); rintro e w2 ⟨rfl, hb2⟩
    have HB2 := Aside0.mk hb2
    clear hb2
    go_wp2
    go_ret
    exact ⟨rfl, HB2.out⟩
  · have d1 : decide (300 < (N.length : Int)) = false := decide_eq_false h1
    by_cases h2 : 50 < (M.length : Int)
    · have d2 : decide (50 < (M.length : Int)) = true := decide_eq_true h2
      go_enter Try.func3, Try.ntmps3
      go_wp2_with fail
      (with_reducible refine (awake_any _).mono ?_); rintro e w2 ⟨rfl, hb2⟩
      have HB2 := Aside0.mk hb2
      clear hb2
      go_wp2
      go_ret
      exact ⟨rfl, HB2.out⟩
    · have d2 : decide (50 < (M.length : Int)) = false := decide_eq_false h2
      have hL : N.length ≤ 1000000 := by omega
      have hL2 : M.length ≤ 1000000 := by omega
      have hmk := mk_ok hL
      have HCF := Aside0.mk (config_any (cap := ca) hL HN.out)
      obtain ⟨c, hc⟩ : ∃ c, c = mkCfg N := ⟨_, rfl⟩
      rw [← hc] at hmk HCF
      have MK := Aside0.mk hmk
      clear hmk hc
      go_enter Try.func3, Try.ntmps3
      go_wp2_with fail
      (with_reducible refine (HCF.out).mono ?_); rintro e w2 ⟨⟨vA, vc, vB, vd⟩, rfl, hcf, hb2⟩
      unfold CfV.val
      dsimp only
      have HC2 := Aside0.mk hcf
      have HB2 := Aside0.mk hb2
      clear hcf hb2 HCF
      go_wp2_with (first | ((with_reducible refine gate_ (.store 27 (.tmp 5) (.tmp 25)) rfl ?_); refine Aside0.out ?_))
      refine ⟨?_⟩
      refine store_at (x := w2.heap.size) (o := 0) (u := .agg #[.slice vA c.ds.length vc, .slice vB c.bs.length vd]) (seg := [.slice vA c.ds.length vc, .slice vB c.bs.length vd]) rfl rfl rfl rfl rfl (blk_new w2 _) rfl (by kernel_rfl) (show 0 + 2 ≤ 2 by decide) (by intro q hq; simp only [List.mem_cons, List.not_mem_nil, or_false] at hq; rcases hq with rfl | rfl <;> rfl) ?_
      obtain ⟨hb3, hx3⟩ := boxed w2 #[.slice none 0 0, .slice none 0 0] 27 [.slice vA c.ds.length vc, .slice vB c.bs.length vd] rfl
      generalize (w2.alloc (.cells #[.slice none 0 0, .slice none 0 0] 27)).setCells w2.heap.size 0 [.slice vA c.ds.length vc, .slice vB c.bs.length vd] = w3 at *
      have HX3 := Aside0.mk hx3
      have HC3 := Aside0.mk (HC2.out.below hb3)
      have HB3 := Aside0.mk (below_then HB2.out HB2.out.size hb3)
      generalize w2.heap.size = xc at *
      have c0 : w3.cell? ⟨xc, 0, none⟩ = some (.slice vA c.ds.length vc) := (blk_cell HX3.out 0).trans rfl
      have c1 : w3.cell? ⟨xc, 1, none⟩ = some (.slice vB c.bs.length vd) := (blk_cell HX3.out 1).trans rfl
      have HNW := Aside0.mk (new_ok (v := ⟨vA, vc, vB, vd⟩) HC3.out MK.out.wf (wf_cfg MK.out) MK.out.ck)
      unfold CfV.val at HNW
      dsimp only at HNW
      clear hb3 hx3 HB2 HC2
      go_wp2_with fail
      (with_reducible refine (HNW.out).mono ?_); rintro e w4 ⟨t, rfl, ht, hb4⟩
      have HX4 := Aside0.mk ((hb4.block _ (blk_lt HX3.out)).trans HX3.out)
      have HC4 := Aside0.mk (HC3.out.below hb4)
      have HB4 := Aside0.mk (below_then HB3.out HB3.out.size hb4)
      have HT4 := Aside0.mk ht
      clear HNW ht hb4 HX3 HC3 HB3 c0 c1
      go_wp2_with (first | ((with_reducible refine gate_callee (f := 9) rfl ?_); refine Aside0.out ?_))
      refine ⟨?_⟩
      have htp : TAPE w4 (w4.alloc (.cells #[.slice B M.length cb, .int .i64 0] 39)) w4.heap.size M 0 := ⟨B, cb, blk_new w4 _, Nat.le_refl _, Kd.C_below HM.out HB4.out⟩
      obtain ⟨l, q, e8, l3, lx, _⟩ := desc_f hL2 (p := 0) ⟨by omega, by omega⟩
      have HDE := Aside0.mk (turncockmake_Desc.calls 10 w4.heap.size M 0 l q w4 _ htp (below_alloc (Below.refl _ _) _) e8)
      have HLX := Aside0.mk lx
      clear e8 lx htp
      refine goesL_ (some 40) rfl rfl Try.func9 (by kernel_rfl) rfl #[.pointer (some ⟨w4.heap.size, 0, none⟩)] rfl (by (try simp only [List.map_toArray, List.map_cons, List.map_nil]); first | done | rfl) ?_
      (with_reducible refine (HDE.out).mono ?_)
      rintro e w5 ⟨v0, rfl, hR, hI, hb5, hk⟩
      refine ⟨_, rfl, ?_⟩
      obtain ⟨Al, cl, e5⟩ := Kd.R_slice hR
      obtain ⟨nl, hnl⟩ : ∃ n, n = l.length := ⟨_, rfl⟩
      rw [← hnl] at e5
      subst e5
      have hrd := Kd.R_reads' hR
      have hcl := hrd.2.1
      have HKl := Aside0.mk hrd.2.2
      have HNL := Aside0.mk hnl
      have hl3 : nl ≤ 3 := by omega
      clear hrd
      have HX5 := Aside0.mk ((hb5.block _ (blk_lt HX4.out)).trans HX4.out)
      have HC5 := Aside0.mk (HC4.out.below hb5)
      have HT5 := Aside0.mk (HT4.out.below hb5)
      have HB5 := Aside0.mk (below_then HB4.out HB4.out.size hb5)
      clear HDE hR hI hb5 hk HX4 HC4 HT4 HB4 hnl l3
      go_wp2_with (first | ((with_reducible refine gate_ (.store 35 (.tmp 8) (.tmp 40)) rfl ?_); refine Aside0.out ?_))
      refine ⟨?_⟩
      refine store_at (x := w5.heap.size) (o := 0) (u := .agg #[.slice Al nl cl]) (seg := [.slice Al nl cl]) rfl rfl rfl rfl rfl (blk_new w5 _) rfl (by kernel_rfl) (show 0 + 1 ≤ 1 by decide) (by intro q hq; simp only [List.mem_cons, List.not_mem_nil, or_false] at hq; subst hq; rfl) ?_
      obtain ⟨hb6, hx6⟩ := boxed w5 #[.slice none 0 0] 35 [.slice Al nl cl] rfl
      generalize (w5.alloc (.cells #[.slice none 0 0] 35)).setCells w5.heap.size 0 [.slice Al nl cl] = w6 at *
      have HX6 := Aside0.mk ((hb6.block _ (blk_lt HX5.out)).trans HX5.out)
      have HD6 := Aside0.mk hx6
      have HC6 := Aside0.mk (HC5.out.below hb6)
      have HT6 := Aside0.mk (HT5.out.below hb6)
      have HB6 := Aside0.mk (below_then HB5.out HB5.out.size hb6)
      have HK6 := Aside0.mk (Kd.C_below HKl.out hb6)
      generalize w5.heap.size = xd at *
      have y0 : w6.cell? ⟨xd, 0, none⟩ = some (.slice Al nl cl) := (blk_cell HD6.out 0).trans rfl
      have HSH : (⟨#[115, 104, 111, 112]⟩ : ByteArray).size ≤ maxLen := by decide
      have HMT := Aside0.mk (match_any (cd := cl) HT6.out (by have := MK.out.l2; omega) (by have := MK.out.l40; omega) ⟨#[115, 104, 111, 112]⟩ HSH HK6.out (by have := HNL.out; omega) (fun x hx => by have := (HLX.out x hx).1; omega) (by have := HNL.out; omega))
      rw [← HNL.out] at HMT
      clear hb6 hx6 HX5 HC5 HT5 HB5 HKl HSH
      go_wp2_with fail
      (with_reducible refine (HMT.out).mono ?_); rintro e w7 ⟨rfl, hb7⟩
      have HX7 := Aside0.mk ((hb7.block _ (blk_lt HX6.out)).trans HX6.out)
      have HD7 := Aside0.mk ((hb7.block _ (blk_lt HD6.out)).trans HD6.out)
      have HC7 := Aside0.mk (HC6.out.below hb7)
      have HB7 := Aside0.mk (below_then HB6.out HB6.out.size hb7)
      have HK7 := Aside0.mk (Kd.C_below HK6.out hb7)
      clear hb7 HMT HX6 HD6 HC6 HT6 HB6 HK6 y0
      cases hr : matchV c ⟨#[115, 104, 111, 112]⟩ l with
      | none =>
        unfold outV
        dsimp only
        clear hr
        go_wp2_with fail
        (with_reducible refine (awake_any _).mono ?_); rintro e w8 ⟨rfl, hb8⟩
        have HB8 := Aside0.mk (below_then HB7.out HB7.out.size hb8)
        clear hb8
        go_wp2
        go_ret
        exact ⟨rfl, HB8.out⟩
      | some k0 =>
        obtain ⟨_, a0, hleft⟩ := left_start hr
        have HLF := Aside0.mk hleft
        have HTR := Aside0.mk (chk_tree mayB_of MK.out.ck).1
        unfold outV
        dsimp only
        clear hr hleft
        have y1 : w7.cell? ⟨xd, 0, none⟩ = some (.slice Al nl cl) := (blk_cell HD7.out 0).trans rfl
        have ew0 : wrap64 ((nl : Int) - 1) = (nl : Int) - 1 := wrap_small (by omega) (by omega)
        go_wp2
        try rw [ew0]
        go_loopw [9, 11] (fun kv iv wr => ∃ (kk : Int) (tt : Nat), tt ≤ nl ∧ kv = .int .i64 kk ∧ iv = .int .i64 ((tt : Int) - 1) ∧ Aside0 (Left c a0 l tt kk) ∧ Aside0 (Below w7.heap.size w7 wr)) (fun _ iv _ => (intOf iv + 1).toNat)
        case atStart => exact ⟨k0, nl, Nat.le_refl _, rfl, rfl, by rw [HNL.out]; exact HLF, ⟨Below.refl _ _⟩⟩
        case round =>
          obtain ⟨kk, tt, htt, rfl, rfl, HL, HBr⟩ := hrel
          clear HLF
          match tt, htt, HL with
          | 0, htt, HL =>
            have hkm := left_end HL.out
            subst hkm
            clear HL
            go_wp2_with fail
            (with_reducible refine (awake_any _).mono ?_); rintro e w8 ⟨rfl, hb8⟩
            have HB8 := Aside0.mk (below_then HB7.out HB7.out.size (below_then HBr.out HBr.out.size hb8))
            clear hb8
            go_wp2
            go_ret
            exact ⟨rfl, HB8.out⟩
          | tt + 1, htt, HL =>
            have ht1 : tt < l.length := by have := HNL.out; omega
            obtain ⟨k0', k1', kf, kv, ks, kl⟩ := left_step HTR.out ht1 HL.out
            have HKV := Aside0.mk kv
            have HKS := Aside0.mk ks
            have HKL := Aside0.mk kl
            have hti : ((tt + 1 : Nat) : Int) - 1 = (tt : Int) := by omega
            rw [hti]
            have hti0 : (0 : Int) ≤ (tt : Int) := by omega
            have hti1 : (tt : Int) < (nl : Int) := by omega
            have hge : decide ((tt : Int) ≥ 0) = true := decide_eq_true (by omega)
            obtain ⟨e, he⟩ : ∃ e, e = l.getD tt z48 := ⟨_, rfl⟩
            rw [← he] at kf HKV HKS
            obtain ⟨b, hb⟩ : ∃ b, b = br c.bs kk := ⟨_, rfl⟩
            rw [← hb] at kf HKV HKS HKL
            have HXr := Aside0.mk ((HBr.out.block _ (blk_lt HX7.out)).trans HX7.out)
            have HDr := Aside0.mk ((HBr.out.block _ (blk_lt HD7.out)).trans HD7.out)
            have HCr := Aside0.mk (HC7.out.below HBr.out)
            have HKr := Aside0.mk (Kd.C_below HK7.out HBr.out)
            obtain ⟨adb, XA, xcc, eb, z0, z1, z2, z3, z4, z5, z6, z7, z8, z9, z10, z11, z12, _, _⟩ := at_T46 HCr.out.bs kk k0' k1'
            rw [br_rd, ← hb] at z0 z1 z2 z3 z4 z5 z6 z7 z8 z9 z10 z11 z12
            have c1 : wr.cell? ⟨xc, 1, none⟩ = some (.slice vB c.bs.length vd) := (blk_cell HXr.out 1).trans rfl
            dsimp only at eb
            subst eb
            have HE := Aside0.mk he
            have HBB := Aside0.mk hb
            have HKF := Aside0.mk kf
            clear kv ks kl he hb kf HL hti
            have EWT := Aside0.mk (wrap_small (x := (tt : Int) - 1) (by omega) (by omega))
            have dk0 : decide (kk < 0) = false := decide_eq_false (by omega)
            have dk1 : decide (kk ≥ (c.bs.length : Int)) = false := decide_eq_false (by omega)
            go_wp2_with (first | ((with_reducible refine gate_ (.store 46 (.tmp 12) (.tmp 71)) rfl ?_); refine Aside0.out ?_))
            refine ⟨?_⟩
            refine store_at (x := wr.heap.size) (o := 0) (u := .agg #[.string b.f0, .string b.f1, .bool b.f2, .int .i64 b.f3, .int .i64 b.f4, .bool b.f5, .string b.f6.f0, .int .i64 b.f6.f1, .int .i64 b.f6.f2, .float .f64 b.f6.f3, .bool b.f6.f4, .bool b.f6.f5, .slice XA b.f7.length xcc]) (seg := [.string b.f0, .string b.f1, .bool b.f2, .int .i64 b.f3, .int .i64 b.f4, .bool b.f5, .string b.f6.f0, .int .i64 b.f6.f1, .int .i64 b.f6.f2, .float .f64 b.f6.f3, .bool b.f6.f4, .bool b.f6.f5, .slice XA b.f7.length xcc]) rfl rfl rfl rfl rfl (blk_new wr _) rfl (by kernel_rfl) (show 0 + 13 ≤ 13 by decide) (by intro q hq; simp only [List.mem_cons, List.not_mem_nil, or_false] at hq; rcases hq with rfl | rfl | rfl | rfl | rfl | rfl | rfl | rfl | rfl | rfl | rfl | rfl | rfl <;> rfl) ?_
            obtain ⟨hb8, hx8⟩ := boxed wr #[.string ⟨#[]⟩, .string ⟨#[]⟩, .bool false, .int .i64 0, .int .i64 0, .bool false, .string ⟨#[]⟩, .int .i64 0, .int .i64 0, .float .f64 0, .bool false, .bool false, .slice none 0 0] 46 [.string b.f0, .string b.f1, .bool b.f2, .int .i64 b.f3, .int .i64 b.f4, .bool b.f5, .string b.f6.f0, .int .i64 b.f6.f1, .int .i64 b.f6.f2, .float .f64 b.f6.f3, .bool b.f6.f4, .bool b.f6.f5, .slice XA b.f7.length xcc] rfl
            generalize (wr.alloc (.cells #[.string ⟨#[]⟩, .string ⟨#[]⟩, .bool false, .int .i64 0, .int .i64 0, .bool false, .string ⟨#[]⟩, .int .i64 0, .int .i64 0, .float .f64 0, .bool false, .bool false, .slice none 0 0] 46)).setCells wr.heap.size 0 [.string b.f0, .string b.f1, .bool b.f2, .int .i64 b.f3, .int .i64 b.f4, .bool b.f5, .string b.f6.f0, .int .i64 b.f6.f1, .int .i64 b.f6.f2, .float .f64 b.f6.f3, .bool b.f6.f4, .bool b.f6.f5, .slice XA b.f7.length xcc] = w8 at *
            have HXB := Aside0.mk (show w8.heap[wr.heap.size]? = some (.cells (cellsB b XA xcc) 46 (0, 0)) from hx8)
            have HX8 := Aside0.mk ((hb8.block _ (blk_lt HXr.out)).trans HXr.out)
            have HD8 := Aside0.mk ((hb8.block _ (blk_lt HDr.out)).trans HDr.out)
            have HC8 := Aside0.mk (HCr.out.below hb8)
            have HK8 := Aside0.mk (Kd.C_below HKr.out hb8)
            have HB8 := Aside0.mk (below_then HBr.out HBr.out.size hb8)
            generalize wr.heap.size = xb at *
            clear hx8 hb8 z0 z1 z2 z3 z4 z5 z6 z7 z8 z9 z10 z11 z12 c1 HXr HDr HCr HKr HBr
            obtain ⟨adl, eal, q0, q1⟩ := at_T48 HK8.out (tt : Int) hti0 (by have := HNL.out; omega)
            have er : rd_T48 l (tt : Int) = e := by rw [HE.out]; exact congrArg (fun i => l.getD i z48) (Int.toNat_natCast tt)
            rw [er, Int.toNat_natCast] at q0 q1
            rw [← HKF.out] at q0
            subst eal
            clear er
            obtain ⟨x0, x1, x2, x3, x4, _, _, _, _, _, _, _, _⟩ := cellsB_at HXB.out
            have c1 : w8.cell? ⟨xc, 1, none⟩ = some (.slice (some adb) c.bs.length vd) := (blk_cell HX8.out 1).trans rfl
            have y0 : w8.cell? ⟨xd, 0, none⟩ = some (.slice (some adl) nl cl) := (blk_cell HD8.out 0).trans rfl
            cases hf2 : b.f2 with
            | false =>
              have hv : b.f1 = e.f1 := by
                rcases HKV.out with h | h
                · rw [hf2] at h; cases h
                · exact h
              rw [← hv] at q1
              have HVV := Aside0.mk hv
              have HF2 := Aside0.mk hf2
              rw [hf2] at x2
              clear hv hf2
              go_wp2
              go_quiet (fail)
              clear q0 q1 x0 x1 x2 x3 x4 c1 y0
              go_wp2
              go_loopw [13] (fun jv wr => ∃ j : Nat, jv = .int .i64 (j : Int) ∧ j ≤ c.bs.length ∧ Aside0 (Below w8.heap.size w8 wr)) (fun jv _ => c.bs.length - (intOf jv).toNat)
              case atStart => exact ⟨0, rfl, Nat.zero_le _, ⟨by first | exact Below.refl _ _ | exact below_drew (Below.refl _ _) | exact pw_below_drewN (Below.refl _ _) _⟩⟩
              case round =>
                obtain ⟨j, rfl, hj, HBj⟩ := hrel
                have HXj := Aside0.mk ((HBj.out.block _ (blk_lt HX8.out)).trans HX8.out)
                have HBx := Aside0.mk ((HBj.out.block _ (blk_lt HXB.out)).trans HXB.out)
                have c1 : wr.cell? ⟨xc, 1, none⟩ = some (.slice (some adb) c.bs.length vd) := (blk_cell HXj.out 1).trans rfl
                obtain ⟨x0, x1, x2, x3, x4, _, _, _, _, _, _, _, _⟩ := cellsB_at HBx.out
                rw [HF2.out] at x2
                by_cases hjl : j < c.bs.length
                · have dj : decide ((j : Int) < (c.bs.length : Int)) = true := decide_eq_true (by omega)
                  go_wp2
                  go_roundw
                  case rel => exact ⟨b.f4, tt, by omega, rfl, by first | rfl | (rw [EWT.out]), HKL, ⟨below_then HB8.out HB8.out.size HBj.out⟩⟩
                  case measure => exact meas_fit (by first | rfl | rw [EWT.out])
                · have dj : decide ((j : Int) < (c.bs.length : Int)) = false := decide_eq_false (by omega)
                  go_wp2
                  go_roundw
                  case rel => exact ⟨b.f4, tt, by omega, rfl, by first | rfl | (rw [EWT.out]), HKL, ⟨below_then HB8.out HB8.out.size HBj.out⟩⟩
                  case measure => exact meas_fit (by first | rfl | rw [EWT.out])
            | true =>
              rw [hf2] at x2
              have HF2 := Aside0.mk hf2
              clear hf2
              go_wp2
              go_quiet (fail)
              clear q0 q1 x0 x1 x2 x3 x4 c1 y0
              go_wp2
              go_loopw [13] (fun jv wr => ∃ j : Nat, jv = .int .i64 (j : Int) ∧ j ≤ c.bs.length ∧ Aside0 (Below w8.heap.size w8 wr)) (fun jv _ => c.bs.length - (intOf jv).toNat)
              case atStart => exact ⟨0, rfl, Nat.zero_le _, ⟨by first | exact Below.refl _ _ | exact below_drew (Below.refl _ _) | exact pw_below_drewN (Below.refl _ _) _⟩⟩
              case round =>
                obtain ⟨j, rfl, hj, HBj⟩ := hrel
                have HXj := Aside0.mk ((HBj.out.block _ (blk_lt HX8.out)).trans HX8.out)
                have HBx := Aside0.mk ((HBj.out.block _ (blk_lt HXB.out)).trans HXB.out)
                have c1 : wr.cell? ⟨xc, 1, none⟩ = some (.slice (some adb) c.bs.length vd) := (blk_cell HXj.out 1).trans rfl
                obtain ⟨x0, x1, x2, x3, x4, _, _, _, _, _, _, _, _⟩ := cellsB_at HBx.out
                rw [HF2.out] at x2
                by_cases hjl : j < c.bs.length
                · have dj : decide ((j : Int) < (c.bs.length : Int)) = true := decide_eq_true (by omega)
                  have hj0 : (0 : Int) ≤ (j : Int) := by omega
                  have hj1 : (j : Int) < (c.bs.length : Int) := by omega
                  have HCj := Aside0.mk (HC8.out.below HBj.out)
                  obtain ⟨adx, YA, yc, ex, z0, z1, z2, z3, z4, z5, z6, z7, z8, z9, z10, z11, z12, _, _⟩ := at_T46 HCj.out.bs (j : Int) hj0 hj1
                  dsimp only at ex
                  injection ex with ex
                  subst ex
                  obtain ⟨x, hx⟩ : ∃ x, x = br c.bs (j : Int) := ⟨_, rfl⟩
                  rw [br_rd, ← hx, Int.toNat_natCast] at z0 z1 z2 z3 z4 z5 z6 z7 z8 z9 z10 z11 z12
                  have HX := Aside0.mk hx
                  clear hx
                  go_wp2_with (first | ((with_reducible refine gate_ (.store 46 (.tmp 14) (.tmp 112)) rfl ?_); refine Aside0.out ?_))
                  refine ⟨?_⟩
                  refine store_at (x := wr.heap.size) (o := 0) (u := .agg #[.string x.f0, .string x.f1, .bool x.f2, .int .i64 x.f3, .int .i64 x.f4, .bool x.f5, .string x.f6.f0, .int .i64 x.f6.f1, .int .i64 x.f6.f2, .float .f64 x.f6.f3, .bool x.f6.f4, .bool x.f6.f5, .slice YA x.f7.length yc]) (seg := [.string x.f0, .string x.f1, .bool x.f2, .int .i64 x.f3, .int .i64 x.f4, .bool x.f5, .string x.f6.f0, .int .i64 x.f6.f1, .int .i64 x.f6.f2, .float .f64 x.f6.f3, .bool x.f6.f4, .bool x.f6.f5, .slice YA x.f7.length yc]) rfl rfl rfl rfl rfl (blk_new wr _) rfl (by kernel_rfl) (show 0 + 13 ≤ 13 by decide) (by intro q hq; simp only [List.mem_cons, List.not_mem_nil, or_false] at hq; rcases hq with rfl | rfl | rfl | rfl | rfl | rfl | rfl | rfl | rfl | rfl | rfl | rfl | rfl <;> rfl) ?_
                  obtain ⟨hb9, hx9⟩ := boxed wr #[.string ⟨#[]⟩, .string ⟨#[]⟩, .bool false, .int .i64 0, .int .i64 0, .bool false, .string ⟨#[]⟩, .int .i64 0, .int .i64 0, .float .f64 0, .bool false, .bool false, .slice none 0 0] 46 [.string x.f0, .string x.f1, .bool x.f2, .int .i64 x.f3, .int .i64 x.f4, .bool x.f5, .string x.f6.f0, .int .i64 x.f6.f1, .int .i64 x.f6.f2, .float .f64 x.f6.f3, .bool x.f6.f4, .bool x.f6.f5, .slice YA x.f7.length yc] rfl
                  generalize (wr.alloc (.cells #[.string ⟨#[]⟩, .string ⟨#[]⟩, .bool false, .int .i64 0, .int .i64 0, .bool false, .string ⟨#[]⟩, .int .i64 0, .int .i64 0, .float .f64 0, .bool false, .bool false, .slice none 0 0] 46)).setCells wr.heap.size 0 [.string x.f0, .string x.f1, .bool x.f2, .int .i64 x.f3, .int .i64 x.f4, .bool x.f5, .string x.f6.f0, .int .i64 x.f6.f1, .int .i64 x.f6.f2, .float .f64 x.f6.f3, .bool x.f6.f4, .bool x.f6.f5, .slice YA x.f7.length yc] = w9 at *
                  have HXX := Aside0.mk (show w9.heap[wr.heap.size]? = some (.cells (cellsB x YA yc) 46 (0, 0)) from hx9)
                  have HBb := Aside0.mk ((hb9.block _ (blk_lt HBx.out)).trans HBx.out)
                  have HD9 := Aside0.mk ((hb9.block _ (Nat.lt_of_lt_of_le (blk_lt HD8.out) HBj.out.size)).trans ((HBj.out.block _ (blk_lt HD8.out)).trans HD8.out))
                  have HK9 := Aside0.mk (Kd.C_below (Kd.C_below HK8.out HBj.out) hb9)
                  have HB9 := Aside0.mk (below_then HBj.out HBj.out.size hb9)
                  have EWJ := Aside0.mk (wrap_succ hjl (show c.bs.length ≤ 9223372036854775807 by have := MK.out.l40; omega))
                  generalize wr.heap.size = xj at *
                  clear hx9 hb9 z0 z1 z2 z3 z4 z5 z6 z7 z8 z9 z10 z11 z12 c1 x0 x1 x2 x3 x4 HXj HBx
                  obtain ⟨_, _, q1⟩ : True ∧ True ∧ w9.cell? ⟨(adl.add (tt * 2)).block, (adl.add (tt * 2)).off + 1, none⟩ = some (.string e.f1) := by
                    obtain ⟨ad, ea, _, q1⟩ := at_T48 HK9.out (tt : Int) hti0 (by have := HNL.out; omega)
                    have er : rd_T48 l (tt : Int) = e := by rw [HE.out]; exact congrArg (fun i => l.getD i z48) (Int.toNat_natCast tt)
                    rw [er, Int.toNat_natCast] at q1
                    injection ea with ea
                    subst ea
                    exact ⟨trivial, trivial, q1⟩
                  have y0 : w9.cell? ⟨xd, 0, none⟩ = some (.slice (some adl) nl cl) := (blk_cell HD9.out 0).trans rfl
                  obtain ⟨x0, x1, x2, x3, x4, _, _, _, _, _, _, _, _⟩ := cellsB_at HBb.out
                  obtain ⟨u0, u1, u2, u3, u4', _, _, _, _, _, _, _, _⟩ := cellsB_at HXX.out
                  have HNO := Aside0.mk (HKS.out HF2.out (j : Int) hj0 hj1)
                  rw [← HX.out] at HNO
                  by_cases k4 : x.f4 = b.f4
                  · have e4 : decide (x.f4 = b.f4) = true := decide_eq_true k4
                    have e4' : (x.f4 == b.f4) = true := beq_iff_eq.2 k4
                    by_cases k3 : x.f3 = b.f3
                    · have e3 : decide (x.f3 = b.f3) = true := decide_eq_true k3
                      have e3' : (x.f3 == b.f3) = true := beq_iff_eq.2 k3
                      by_cases k0 : x.f0 = b.f0
                      · rw [k0] at u0
                        cases kx2 : x.f2 with
                        | true =>
                          rw [kx2] at u2
                          have HQ := Aside0.mk kx2
                          clear kx2
                          go_wp2
                          go_quiet (fail)
                          go_wp2
                          go_roundw
                          case rel => exact ⟨j + 1, by first | rfl | (rw [EWJ.out]), by omega, ⟨by first | exact HB9.out | exact below_drew HB9.out | exact pw_below_drewN HB9.out _⟩⟩
                          case measure => exact meas_ok hjl (by first | rfl | rw [EWJ.out])
                        | false =>
                          rw [kx2] at u2
                          have hne : ¬ x.f1 = e.f1 := fun h => HNO.out ⟨k4, k3, k0, kx2, h⟩
                          have e1 : (x.f1.toList == e.f1.toList) = false := beq_eq_false_iff_ne.2 (fun h => hne (by rw [ByteArray.toList_eq, ByteArray.toList_eq] at h; exact Go.WideShapes.bytes_inj h))
                          have HQ := Aside0.mk kx2
                          clear kx2 hne
                          go_wp2
                          go_quiet (fail)
                          go_wp2
                          go_roundw
                          case rel => exact ⟨j + 1, by first | rfl | (rw [EWJ.out]), by omega, ⟨by first | exact HB9.out | exact below_drew HB9.out | exact pw_below_drewN HB9.out _⟩⟩
                          case measure => exact meas_ok hjl (by first | rfl | rw [EWJ.out])
                      · have e0 : (x.f0.toList == b.f0.toList) = false := beq_eq_false_iff_ne.2 (fun h => k0 (by rw [ByteArray.toList_eq, ByteArray.toList_eq] at h; exact Go.WideShapes.bytes_inj h))
                        clear k0
                        go_wp2
                        go_quiet (fail)
                        go_wp2
                        go_roundw
                        case rel => exact ⟨j + 1, by first | rfl | (rw [EWJ.out]), by omega, ⟨by first | exact HB9.out | exact below_drew HB9.out | exact pw_below_drewN HB9.out _⟩⟩
                        case measure => exact meas_ok hjl (by first | rfl | rw [EWJ.out])
                    · have e3 : decide (x.f3 = b.f3) = false := decide_eq_false k3
                      have e3' : (x.f3 == b.f3) = false := beq_eq_false_iff_ne.2 k3
                      clear k3
                      go_wp2
                      go_quiet (fail)
                      go_wp2
                      go_roundw
                      case rel => exact ⟨j + 1, by first | rfl | (rw [EWJ.out]), by omega, ⟨by first | exact HB9.out | exact below_drew HB9.out | exact pw_below_drewN HB9.out _⟩⟩
                      case measure => exact meas_ok hjl (by first | rfl | rw [EWJ.out])
                  · have e4 : decide (x.f4 = b.f4) = false := decide_eq_false k4
                    have e4' : (x.f4 == b.f4) = false := beq_eq_false_iff_ne.2 k4
                    clear k4
                    go_wp2
                    go_quiet (fail)
                    go_wp2
                    go_roundw
                    case rel => exact ⟨j + 1, by first | rfl | (rw [EWJ.out]), by omega, ⟨by first | exact HB9.out | exact below_drew HB9.out | exact pw_below_drewN HB9.out _⟩⟩
                    case measure => exact meas_ok hjl (by first | rfl | rw [EWJ.out])
                · have dj : decide ((j : Int) < (c.bs.length : Int)) = false := decide_eq_false (by omega)
                  go_wp2
                  go_roundw
                  case rel => exact ⟨b.f4, tt, by omega, rfl, by first | rfl | (rw [EWT.out]), HKL, ⟨below_then HB8.out HB8.out.size HBj.out⟩⟩
                  case measure => exact meas_fit (by first | rfl | rw [EWT.out])
end Go.Proofs.Ytipbigdpannlcaa.Tr
