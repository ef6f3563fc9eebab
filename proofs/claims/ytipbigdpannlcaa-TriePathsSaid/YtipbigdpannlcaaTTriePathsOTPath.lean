/- What the law TriePaths uses, thinned: printed by shake2.py. -/
import Derived.Test.YtipbigdpannlcaaTTriePathsOTFit
import Derived.Test.YtipbigdpannlcaaTTriePathsOTLb
import Derived.Test.YtipbigdpannlcaaTTriePathsPTrieFitsx8
namespace Go.Proofs.Ytipbigdpannlcaa.Tr
open Go.RowKit Go.Proofs.Ytipbigdpannlcaa.PTrieFits Go.Proofs.Ytipbigdpannlcaa.Pure Go.Proofs.YtipbigdpannlcaaW.PrintWords Go.Proofs.YtipbigdpannlcaaW.PrintLast Go.Proofs.YtipbigdpannlcaaW.PrintMore
set_option maxRecDepth 100000
set_option linter.unusedVariables false
set_option linter.unusedSimpArgs false
theorem resc_any (s : ByteArray) (hs : s.size ≤ 1099511627776) (w : World) : Calls Try.prog 12 #[.string s] w fun e w' => e = .returned (.string (eB s)) ∧ Below w.heap.size w w' :=
  (turncockref1_Escape.calls s (eB s) w (by unfold turncockref1_Escape.f; rw [if_pos hs]; rfl)).mono fun e w' ⟨a, b⟩ => ⟨a, b.below⟩
theorem nameB_sz {s : ByteArray} (hs : s.size ≤ 9223372036854775807) (h : nameB s = true) : s.size ≤ 64 := by
  obtain ⟨b, h1, h2⟩ := name_same s hs
  have := name_f s hs (s.size + 2) (by omega)
  rw [(h2 (s.size + 2) (by omega)).2, h] at this
  exact h1 (Option.some.inj this)
theorem may_sz {b : BR} {d u : Int} (hw : WfB b) (h : mayB b d u = true) : b.f0.size ≤ 64 ∧ b.f1.size ≤ 128 ∧ (b.f2 = true → b.f1.toList = []) := by
  unfold mayB at h
  simp only [Bool.and_eq_true, decide_eq_true_eq, Bool.or_eq_true, Bool.not_eq_true'] at h
  obtain ⟨_, _, h2, h3, h4, _⟩ := h
  refine ⟨nameB_sz hw.s0 h2, by omega, fun e => ?_⟩
  rcases h4 with h4 | h4
  · rw [e] at h4; cases h4
  · exact h4
theorem sz_of {c : Cfg} (h : MkOk c) : ∀ j : Int, 0 ≤ j → j < c.bs.length → (br c.bs j).f0.size ≤ 64 ∧ (br c.bs j).f1.size ≤ 128 := fun j h0 h1 =>
  have := may_sz (h.wf _ (br_mem h0 h1)) ((chk_tree mayB_of h.ck).2.2.2.2.2 j h0 h1)
  ⟨this.1, this.2.1⟩
theorem any_of {c : Cfg} (h : MkOk c) : ∀ j : Int, 0 ≤ j → j < c.bs.length → (br c.bs j).f2 = true → (br c.bs j).f1.toList = [] := fun j h0 h1 =>
  (may_sz (h.wf _ (br_mem h0 h1)) ((chk_tree mayB_of h.ck).2.2.2.2.2 j h0 h1)).2.2
theorem nm_of {c : Cfg} (h : MkOk c) : ∀ d : Int, 0 ≤ d → d < c.ds.length → (dd c.ds d).f0.size ≤ 64 := by
  intro d h0 h1
  have : dd c.ds d ∈ c.ds := by
    unfold dd
    rw [List.getD_eq_getElem?_getD, List.getElem?_eq_getElem (by omega)]
    exact List.getElem_mem _
  have := h.wd _ this
  omega
theorem oneB_len (b : BR) : (oneB b).size = (uOf b).length + 1 := by
  have : (oneB b).data.toList.length = (oneB b).size := by rw [Array.length_toList]; rfl
  rw [← this, oneB_l]; rfl
theorem app_at {s u : ByteArray} {b : BR} (h : s = u ++ oneB b) : ∀ {hlt : u.size < s.size}, s[u.size]'hlt = 44 := by
  subst h
  intro hlt
  have h1 : (u ++ oneB b).data.toList[u.size]? = some 44 := by
    rw [ByteArray.data_append, Array.toList_append, List.getElem?_append_right (by rw [Array.length_toList]; exact Nat.le_refl _), oneB_l, Array.length_toList]
    show (44 :: uOf b)[u.size - u.size]? = _
    rw [Nat.sub_self]; rfl
  rw [Array.getElem?_toList] at h1
  exact (Array.getElem?_eq_some_iff.1 h1).2
theorem path_sz {c : Cfg} (hsz : ∀ j : Int, 0 ≤ j → j < c.bs.length → (br c.bs j).f0.size ≤ 64 ∧ (br c.bs j).f1.size ≤ 128) (hnm : ∀ d : Int, 0 ≤ d → d < c.ds.length → (dd c.ds d).f0.size ≤ 64) (ht : Tree c) (hl : c.bs.length ≤ 40) {i : Int} (h0 : 0 ≤ i) (h1 : i < c.bs.length) : (pathV c i).size ≤ 100000 := by
  have : ∀ (f : Nat) (i : Int), i.toNat < f → 0 ≤ i → i < c.bs.length → (pathV c i).size ≤ 192 + 600 * (i.toNat + 1) := by
    intro f
    induction f with
    | zero => intro i hf; omega
    | succ f ih =>
      intro i hf i0 i1
      rw [path_up ht i0 i1, ByteArray.size_append]
      have h2 := oneB_size _ (hsz i i0 i1).1 (hsz i i0 i1).2
      unfold upV
      rcases ht.up i i0 i1 with ⟨e, _⟩ | ⟨e, g, _⟩
      · rw [if_neg (by omega)]
        have d := ht.dom i i0 i1
        have := eB_size (dd c.ds (br c.bs i).f3).f0
        have := hnm _ d.1 d.2
        omega
      · rw [if_pos e]
        have := ih (br c.bs i).f4 (by omega) e (by omega)
        omega
  have := this (i.toNat + 1) i (by omega) h0 h1
  omega
theorem app_cut {s u v : ByteArray} (h : s = u ++ v) : s.extract 0 u.size = u := by
  rw [h]; exact ByteArray.extract_append_eq_left rfl
set_option maxHeartbeats 4000000 in
theorem paths_law {w : World} {A : Option Addr} {ca : Nat} {N : List Int} (hN : kI.C w A N.length N) :
    Calls Try.prog 4 #[.slice A N.length ca] w fun e w' => e = .returned (.bool true) ∧ Below w.heap.size w w' := by
  have HN := Aside0.mk hN
  clear hN
  by_cases h1 : 300 < (N.length : Int)
  · have d1 : decide (300 < (N.length : Int)) = true := decide_eq_true h1
    go_enter Try.func4, Try.ntmps4
    go_wp2_with fail
    (with_reducible refine (awake_any _).mono ?_); rintro e w2 ⟨rfl, hb2⟩
    have HB2 := Aside0.mk hb2
    clear hb2
    go_wp2
    go_ret
    exact ⟨rfl, HB2.out⟩
  · have d1 : decide (300 < (N.length : Int)) = false := decide_eq_false h1
    have hL : N.length ≤ 1000000 := by omega
    have hmk := mk_ok hL
    have HCF := Aside0.mk (config_any (cap := ca) hL HN.out)
    obtain ⟨c, hc⟩ : ∃ c, c = mkCfg N := ⟨_, rfl⟩
    rw [← hc] at hmk HCF
    have MK := Aside0.mk hmk
    clear hmk hc
    go_enter Try.func4, Try.ntmps4
    go_wp2_with fail
    (with_reducible refine (HCF.out).mono ?_); rintro e w2 ⟨⟨vA, vc, vB, vd⟩, rfl, hcf, hb2⟩
    unfold CfV.val
    dsimp only
    have HC2 := Aside0.mk hcf
    have HB2 := Aside0.mk hb2
    clear hcf hb2 HCF
    go_wp2_with (first | ((with_reducible refine gate_ (.store 27 (.tmp 3) (.tmp 15)) rfl ?_); refine Aside0.out ?_))
    refine ⟨?_⟩
    refine store_at (x := w2.heap.size) (o := 0) (u := .agg #[.slice vA c.ds.length vc, .slice vB c.bs.length vd]) (seg := [.slice vA c.ds.length vc, .slice vB c.bs.length vd]) rfl rfl rfl rfl rfl (blk_new w2 _) rfl (by kernel_rfl) (show 0 + 2 ≤ 2 by decide) (by intro q hq; simp only [List.mem_cons, List.not_mem_nil, or_false] at hq; rcases hq with rfl | rfl <;> rfl) ?_
    obtain ⟨hb3, hx3⟩ := boxed w2 #[.slice none 0 0, .slice none 0 0] 27 [.slice vA c.ds.length vc, .slice vB c.bs.length vd] rfl
    generalize (w2.alloc (.cells #[.slice none 0 0, .slice none 0 0] 27)).setCells w2.heap.size 0 [.slice vA c.ds.length vc, .slice vB c.bs.length vd] = w3 at *
    have HX3 := Aside0.mk hx3
    have HC3 := Aside0.mk (HC2.out.below hb3)
    have HB3 := Aside0.mk (below_then HB2.out HB2.out.size hb3)
    generalize w2.heap.size = xc at *
    have c0 : w3.cell? ⟨xc, 0, none⟩ = some (.slice vA c.ds.length vc) := (blk_cell HX3.out 0).trans rfl
    have c1 : w3.cell? ⟨xc, 1, none⟩ = some (.slice vB c.bs.length vd) := (blk_cell HX3.out 1).trans rfl
    have HNW := Aside0.mk (new_ok (v := ⟨vA, vc, vB, vd⟩) HC3.out MK.out.wf (wf_cfg MK.out) MK.out.ck)
    unfold CfV.val at HNW
    dsimp only at HNW
    clear hb3 hx3 HB2 HC2
    go_wp2_with fail
    (with_reducible refine (HNW.out).mono ?_); rintro e w4 ⟨t, rfl, ht, hb4⟩
    have HX4 := Aside0.mk ((hb4.block _ (blk_lt HX3.out)).trans HX3.out)
    have HC4 := Aside0.mk (HC3.out.below hb4)
    have HB4 := Aside0.mk (below_then HB3.out HB3.out.size hb4)
    have HT4 := Aside0.mk ht
    clear HNW ht hb4 HX3 HC3 HB3 c0 c1
    have htree := chk_tree mayB_of MK.out.ck
    have HTR := Aside0.mk htree.1
    have HPA := Aside0.mk (fun (W : World) (hW : Below w4.heap.size w4 W) (n : Int) (h0 : 0 ≤ n) (h1 : n < c.bs.length) => path_any (HT4.out.below hW) HTR.out (by have := MK.out.l40; omega) (sz_of MK.out) (nm_of MK.out) n (by omega) (by have := MK.out.l40; omega))
    have HMA := Aside0.mk (any_of MK.out)
    clear htree
    go_wp2
    go_loopw [6] (fun iv wr => ∃ i : Nat, iv = .int .i64 (i : Int) ∧ i ≤ c.bs.length ∧ Aside0 (Below w4.heap.size w4 wr)) (fun iv _ => c.bs.length - (intOf iv).toNat)
    case atStart => exact ⟨0, rfl, Nat.zero_le _, ⟨Below.refl _ _⟩⟩
    case round =>
      obtain ⟨i, rfl, hi, HBr⟩ := hrel
      have HX := Aside0.mk ((HBr.out.block _ (blk_lt HX4.out)).trans HX4.out)
      have HCr := Aside0.mk (HC4.out.below HBr.out)
      have c0 : wr.cell? ⟨xc, 0, none⟩ = some (.slice vA c.ds.length vc) := (blk_cell HX.out 0).trans rfl
      have c1 : wr.cell? ⟨xc, 1, none⟩ = some (.slice vB c.bs.length vd) := (blk_cell HX.out 1).trans rfl
      by_cases hil : i < c.bs.length
      · have di : decide ((i : Int) < (c.bs.length : Int)) = true := decide_eq_true (by omega)
        have i0 : (0 : Int) ≤ (i : Int) := by omega
        have i1 : (i : Int) < (c.bs.length : Int) := by omega
        have EWI := Aside0.mk (wrap_succ hil (show c.bs.length ≤ 9223372036854775807 by have := MK.out.l40; omega))
        have HP1 := Aside0.mk (HPA.out wr HBr.out (i : Int) i0 i1)
        clear c0 HCr
        go_wp2_with fail
        (with_reducible refine (HP1.out).mono ?_); rintro e w5 ⟨rfl, hb5⟩
        have HB5 := Aside0.mk (below_then HBr.out HBr.out.size hb5)
        have HX5 := Aside0.mk ((hb5.block _ (blk_lt HX.out)).trans HX.out)
        have HC5 := Aside0.mk (HC4.out.below HB5.out)
        clear hb5 HP1 HBr HX c1
        obtain ⟨b, hb⟩ : ∃ b, b = br c.bs (i : Int) := ⟨_, rfl⟩
        have hdm := HTR.out.dom (i : Int) i0 i1
        have hup := HTR.out.up (i : Int) i0 i1
        rw [← hb] at hdm hup
        have HUP := Aside0.mk hup
        obtain ⟨dm0, dm1⟩ := hdm
        obtain ⟨adb, XA, xcc, eb, _, _, _, z3, z4, _, _, _, _, _, _, _, _, _, _⟩ := at_T46 HC5.out.bs (i : Int) i0 i1
        rw [br_rd, ← hb, Int.toNat_natCast] at z3 z4
        obtain ⟨add, XD, xcd, ed, y0, _⟩ := at_T53 HC5.out.ds b.f3 dm0 dm1
        have edd : rd_T53 c.ds b.f3 = dd c.ds b.f3 := rfl
        rw [edd] at y0
        dsimp only at eb ed
        subst eb
        subst ed
        obtain ⟨dn, hdn⟩ : ∃ d, d = (dd c.ds b.f3).f0 := ⟨_, rfl⟩
        rw [← hdn] at y0
        have HSZ := Aside0.mk (show dn.size ≤ 64 by rw [hdn]; exact nm_of MK.out b.f3 dm0 dm1)
        have HDN := Aside0.mk hdn
        have HBB := Aside0.mk hb
        have HY0 := Aside0.mk y0
        have HZ3 := Aside0.mk z3
        have HZ4 := Aside0.mk z4
        clear hdn hb hup edd y0 z3 z4
        go_upto_region 11 with fail
        refine start_ (n := 13) (S := fun w' => w'.cell? ⟨xc, 0, none⟩ = some (.slice (some add) c.ds.length vc) ∧ w'.cell? ⟨xc, 1, none⟩ = some (.slice (some adb) c.bs.length vd) ∧ w'.cell? ⟨(adb.add (i * 13)).block, (adb.add (i * 13)).off + 3, none⟩ = some (.int .i64 b.f3) ∧ w'.cell? (add.add (b.f3.toNat * 2)) = some (.string dn)) (ds := []) #[false, false, false, false, false, false, false, false, false, false, false, false, false] (by kernel_rfl) rfl rfl (⟨(blk_cell HX5.out 0).trans rfl, (blk_cell HX5.out 1).trans rfl, HZ3.out, HY0.out⟩) (fun hHeld => ?_)
        refine pure_ (i := 0) (N := (some 37)) (v := ?_) (a' := ?_) #[true, false, false, false, false, false, false, false, false, false, false, false, false] rfl rfl (by kernel_rfl) (fun _ _ _ h => h) (Or.inl ⟨by rfl, ?_⟩) ?_ ?_
        rotate_left
        · intro w'
          go_simp
          try with_reducible rfl
        rotate_left
        · simp only [Act.put, List.setIfInBounds_toArray, List.set_cons_zero, List.set_cons_succ, i64_w, i32_w]
          rfl
        refine pure_ (i := 2) (N := (some 39)) (v := ?_) (a' := ?_) #[true, false, true, false, false, false, false, false, false, false, false, false, false] rfl rfl (by kernel_rfl) (fun _ _ _ h => h) (Or.inl ⟨by rfl, ?_⟩) ?_ ?_
        rotate_left
        · intro w'
          go_simp
          try with_reducible rfl
        rotate_left
        · simp only [Act.put, List.setIfInBounds_toArray, List.set_cons_zero, List.set_cons_succ, i64_w, i32_w]
          rfl
        refine pure_ (i := 4) (N := (some 41)) (v := ?_) (a' := ?_) #[true, false, true, false, true, false, false, false, false, false, false, false, false] rfl rfl (by kernel_rfl) (fun _ _ _ h => h) (Or.inl ⟨by rfl, ?_⟩) ?_ ?_
        rotate_left
        · intro w'
          go_simp
          try with_reducible rfl
        rotate_left
        · simp only [Act.put, List.setIfInBounds_toArray, List.set_cons_zero, List.set_cons_succ, i64_w, i32_w]
          rfl
        refine take_ (i := 1) (N := (some 38)) (v := ?_) (a' := ?_) #[true, true, true, false, true, false, false, false, false, false, false, false, false] rfl rfl (by kernel_rfl) (fun _ _ _ h => h) (Or.inl ⟨by rfl, ?_⟩) hHeld ?_ ?_
        rotate_left
        · intro w' s0
          obtain ⟨s0, s1, s2, s3⟩ := s0
          go_simp
          try with_reducible rfl
        rotate_left
        · simp only [Act.put, List.setIfInBounds_toArray, List.set_cons_zero, List.set_cons_succ, i64_w, i32_w]
          rfl
        refine take_ (i := 3) (N := (some 40)) (v := ?_) (a' := ?_) #[true, true, true, true, true, false, false, false, false, false, false, false, false] rfl rfl (by kernel_rfl) (fun _ _ _ h => h) (Or.inl ⟨by rfl, ?_⟩) hHeld ?_ ?_
        rotate_left
        · intro w' s0
          obtain ⟨s0, s1, s2, s3⟩ := s0
          go_simp
          try with_reducible rfl
        rotate_left
        · simp only [Act.put, List.setIfInBounds_toArray, List.set_cons_zero, List.set_cons_succ, i64_w, i32_w]
          rfl
        refine pure_ (i := 5) (N := (some 42)) (v := ?_) (a' := ?_) #[true, true, true, true, true, true, false, false, false, false, false, false, false] rfl rfl (by kernel_rfl) (fun _ _ _ h => h) (Or.inl ⟨by rfl, ?_⟩) ?_ ?_
        rotate_left
        · intro w'
          go_simp
          try with_reducible rfl
        rotate_left
        · simp only [Act.put, List.setIfInBounds_toArray, List.set_cons_zero, List.set_cons_succ, i64_w, i32_w]
          rfl
        refine pure_ (i := 6) (N := (some 43)) (v := ?_) (a' := ?_) #[true, true, true, true, true, true, true, false, false, false, false, false, false] rfl rfl (by kernel_rfl) (fun _ _ _ h => h) (Or.inl ⟨by rfl, ?_⟩) ?_ ?_
        rotate_left
        · intro w'
          go_simp
          try with_reducible rfl
        rotate_left
        · simp only [Act.put, List.setIfInBounds_toArray, List.set_cons_zero, List.set_cons_succ, i64_w, i32_w]
          rfl
        refine take_ (i := 7) (N := (some 44)) (v := ?_) (a' := ?_) #[true, true, true, true, true, true, true, true, false, false, false, false, false] rfl rfl (by kernel_rfl) (fun _ _ _ h => h) (Or.inl ⟨by rfl, ?_⟩) hHeld ?_ ?_
        rotate_left
        · intro w' s0
          obtain ⟨s0, s1, s2, s3⟩ := s0
          go_simp
          try with_reducible rfl
        rotate_left
        · simp only [Act.put, List.setIfInBounds_toArray, List.set_cons_zero, List.set_cons_succ, i64_w, i32_w]
          rfl
        refine pure_ (i := 8) (N := (some 45)) (v := ?_) (a' := ?_) #[true, true, true, true, true, true, true, true, true, false, false, false, false] rfl rfl (by kernel_rfl) (fun _ _ _ h => h) (Or.inl ⟨by rfl, ?_⟩) ?_ ?_
        rotate_left
        · intro w'
          go_simp
          try with_reducible rfl
        rotate_left
        · simp only [Act.put, List.setIfInBounds_toArray, List.set_cons_zero, List.set_cons_succ, i64_w, i32_w]
          rfl
        refine pure_ (i := 9) (N := (some 46)) (v := ?_) (a' := ?_) #[true, true, true, true, true, true, true, true, true, true, false, false, false] rfl rfl (by kernel_rfl) (fun _ _ _ h => h) (Or.inl ⟨by rfl, ?_⟩) ?_ ?_
        rotate_left
        · intro w'
          go_simp
          try with_reducible rfl
        rotate_left
        · simp only [Act.put, List.setIfInBounds_toArray, List.set_cons_zero, List.set_cons_succ, i64_w, i32_w]
          rfl
        refine take_ (i := 10) (N := (some 47)) (v := ?_) (a' := ?_) #[true, true, true, true, true, true, true, true, true, true, true, false, false] rfl rfl (by kernel_rfl) (fun _ _ _ h => h) (Or.inl ⟨by rfl, ?_⟩) hHeld ?_ ?_
        rotate_left
        · intro w' s0
          obtain ⟨s0, s1, s2, s3⟩ := s0
          go_simp
          try with_reducible rfl
        rotate_left
        · simp only [Act.put, List.setIfInBounds_toArray, List.set_cons_zero, List.set_cons_succ, i64_w, i32_w]
          rfl
        refine one_ (i := 11) (N := (some 48)) #[true, true, true, true, true, true, true, true, true, true, true, true, false] rfl rfl (by kernel_rfl) (by decide) (fun K hK => ?_)
        refine goes_ Try.func12 (by kernel_rfl) rfl #[.string dn] (by rfl) rfl rfl (by (try simp only [List.map_toArray, List.map_cons, List.map_nil]); first | done | rfl) ?_
        (with_reducible refine (resc_any dn (by have := HSZ.out; omega) _).mono ?_)
        rintro e w6 ⟨rfl, hb6⟩
        refine ⟨_, rfl, ?_⟩
        have HB6 := Aside0.mk (below_then HB5.out HB5.out.size (below_then (below_drew (Below.refl w5.heap.size w5)) (below_drew (Below.refl w5.heap.size w5)).size hb6))
        refine hK.out _ _ (by
          obtain ⟨s0, s1, s2, s3⟩ := hHeld
          exact ⟨pw_cell_below hb6 s0, pw_cell_below hb6 s1, pw_cell_below hb6 s2, pw_cell_below hb6 s3⟩) (fun hHeld => ?_)
        have HB56 := Aside0.mk (below_then (below_drew (Below.refl w5.heap.size w5)) (below_drew (Below.refl w5.heap.size w5)).size hb6)
        clear hb6
        clear hK K
        refine norm_ (a' := ?_) ?_ ?_
        rotate_left
        · show Act.put _ (some 48) _ = _
          simp only [Act.put, List.setIfInBounds_toArray, List.set_cons_zero, List.set_cons_succ, i64_w, i32_w]
          rfl
        refine pure_ (i := 12) (N := (some 8)) (v := ?_) (a' := ?_) #[true, true, true, true, true, true, true, true, true, true, true, true, true] rfl rfl (by kernel_rfl) (fun _ _ _ h => h) (Or.inl ⟨by rfl, ?_⟩) ?_ ?_
        rotate_left
        · intro w'
          go_simp
          try with_reducible rfl
        rotate_left
        · simp only [Act.put, List.setIfInBounds_toArray, List.set_cons_zero, List.set_cons_succ, i64_w, i32_w]
          rfl
        refine done_ (by kernel_rfl) ?_
        have z4 := pw_cell_below HB56.out HZ4.out
        have c1 : w6.cell? ⟨xc, 1, none⟩ = some (.slice (some adb) c.bs.length vd) := pw_cell_below HB56.out ((blk_cell HX5.out 1).trans rfl)
        clear HY0 HZ3 HZ4 HX5 HC5 HB5 HB56 hHeld
        go_upto_if 55 with fail
        go_cut [8] (fun uv wc => uv = .string (upV c (i : Int)) ∧ Aside0 (Below w4.heap.size w4 wc))
        case first =>
          by_cases hu : 0 ≤ b.f4
          · have du : decide (b.f4 ≥ 0) = true := decide_eq_true hu
            have hu1 : b.f4 < c.bs.length := by
              rcases HUP.out with h | h <;> omega
            have HP2 := Aside0.mk (HPA.out w6 HB6.out b.f4 hu hu1)
            have HU := Aside0.mk hu
            go_wp2_with fail
            (with_reducible refine (HP2.out).mono ?_); rintro e w7 ⟨rfl, hb7⟩
            have HB7 := Aside0.mk (below_then HB6.out HB6.out.size hb7)
            clear hb7 HP2
            go_wp2
            go_meet
            case rel => exact ⟨by unfold upV; rw [← HBB.out, if_pos HU.out], HB7⟩
          · have du : decide (b.f4 ≥ 0) = false := decide_eq_false hu
            have HU := Aside0.mk hu
            go_wp2
            go_meet
            case rel => exact ⟨by unfold upV; rw [← HBB.out, if_neg (by have := HU.out; omega), HDN.out], HB6⟩
        case rest =>
          obtain ⟨rfl, HB7⟩ := hcut
          have hpu := path_up HTR.out i0 i1
          rw [← HBB.out] at hpu
          have HSS := Aside0.mk (path_sz (sz_of MK.out) (nm_of MK.out) HTR.out MK.out.l40 i0 i1)
          obtain ⟨s, hs⟩ : ∃ s, s = pathV c (i : Int) := ⟨_, rfl⟩
          obtain ⟨u, hu⟩ : ∃ u, u = upV c (i : Int) := ⟨_, rfl⟩
          rw [← hs, ← hu] at hpu
          rw [← hs] at HSS
          simp only [← hs, ← hu]
          have HS := Aside0.mk hs
          have hsz : s.size = u.size + (uOf b).length + 1 := by
            rw [hpu, ByteArray.size_append, oneB_len]; omega
          have hcut : s.extract 0 u.size = u := app_cut hpu
          have hlt : u.size < s.size := by omega
          have hat : s[u.size]'hlt = 44 := app_at hpu
          have hltI : (u.size : Int) < (s.size : Int) := by omega
          have hleI : (u.size : Int) ≤ (s.size : Int) := by omega
          have hs64 := HSS.out
          have dle : decide ((s.size : Int) ≤ (u.size : Int)) = false := decide_eq_false (by omega)
          have dleN : decide (s.size ≤ u.size) = false := decide_eq_false (by omega)
          clear hs hu hpu hsz
          go_wp2
          try simp only [dleN]
          clear hat hcut dle hltI hleI hlt dleN
          go_loopw [9] (fun kv wr => ∃ k : Nat, kv = .int .i64 (k : Int) ∧ k ≤ i ∧ Aside0 (Below w4.heap.size w4 wr)) (fun kv _ => i - (intOf kv).toNat)
          case atStart => exact ⟨0, rfl, Nat.zero_le _, HB7⟩
          case round =>
            obtain ⟨k, rfl, hk, HBk⟩ := hrel
            by_cases hki : k < i
            · have dk : decide ((k : Int) < (i : Int)) = true := decide_eq_true (by omega)
              have k0 : (0 : Int) ≤ (k : Int) := by omega
              have k1 : (k : Int) < (c.bs.length : Int) := by omega
              have HPk := Aside0.mk (HPA.out wr HBk.out (k : Int) k0 k1)
              have HNE := Aside0.mk (show ¬ pathV c (k : Int) = s by
                intro e
                rw [HS.out] at e
                have := path_inj HTR.out HMA.out (k + 1) (k : Int) (i : Int) (by omega) k0 k1 i0 i1 e
                omega)
              have EWK := Aside0.mk (wrap_succ hki (show i ≤ 9223372036854775807 by have := MK.out.l40; omega))
              obtain ⟨pk, hpk⟩ : ∃ x, x = pathV c (k : Int) := ⟨_, rfl⟩
              rw [← hpk] at HPk HNE
              have hne : (pk.toList == s.toList) = false := beq_eq_false_iff_ne.2 (fun h => HNE.out (by rw [ByteArray.toList_eq, ByteArray.toList_eq] at h; exact Go.WideShapes.bytes_inj h))
              clear hpk
              go_wp2_with fail
              (with_reducible refine (HPk.out).mono ?_); rintro e w8 ⟨rfl, hb8⟩
              have HB8 := Aside0.mk (below_then HBk.out HBk.out.size hb8)
              clear hb8 HPk
              go_wp2
              go_roundw
              case rel => exact ⟨k + 1, by first | rfl | (rw [EWK.out]), by omega, HB8⟩
              case measure => exact meas_ok hki (by first | rfl | rw [EWK.out])
            · have dk : decide ((k : Int) < (i : Int)) = false := decide_eq_false (by omega)
              go_wp2
              go_roundw
              case rel => exact ⟨i + 1, by first | rfl | (rw [EWI.out]), by omega, HBk⟩
              case measure => exact meas_ok hil (by first | rfl | rw [EWI.out])
      · have di : decide ((i : Int) < (c.bs.length : Int)) = false := decide_eq_false (by omega)
        go_wp2_with fail
        (with_reducible refine (awake_any _).mono ?_); rintro e w5 ⟨rfl, hb5⟩
        have HB5 := Aside0.mk (below_then HB4.out HB4.out.size (below_then HBr.out HBr.out.size hb5))
        clear hb5
        go_wp2
        go_ret
        exact ⟨rfl, HB5.out⟩
end Go.Proofs.Ytipbigdpannlcaa.Tr
