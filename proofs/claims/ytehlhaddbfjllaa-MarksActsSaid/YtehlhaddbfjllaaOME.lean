/- Maps of texts to numbers, and what counts in them: a part of the proof. -/
import Derived.Test.YtehlhaddbfjllaaOMD
import Derived.BigQuiet
import Derived.Deep.RegionHeld3
namespace Go.Proofs.Ytehlhaddbfjllaa.Mp
open Go.RowKit Go.Sort Go.Proofs.YtehlhaddbfjllaaW.PrintWords Go.Proofs.YtehlhaddbfjllaaW.PrintLast Go.Maps Go.WideMaps
set_option maxRecDepth 100000
set_option linter.unusedVariables false
attribute [local go_sem ↓] Go.wp_at_zero Go.wp_at_succ
/-- Who has to go for a key to come. -/
def goR (most : Nat) (K : List KV) (key : ByteArray) (now : Int) (K1 : List KV) : Prop :=
  ((hasK K key = true ∨ K.length < most) ∧ K1 = K) ∨
  (hasK K key = false ∧ most ≤ K.length ∧ (((onlyK K now).length < most ∧ K1 = onlyK K now) ∨
    (most ≤ (onlyK K now).length ∧ ∃ f, f ∈ (onlyK K now).map (·.1) ∧ (∀ x ∈ (onlyK K now).map (·.1), ¬ ltM (onlyK K now) x f) ∧ K1 = dropK (onlyK K now) f)))
/-- What a Put leaves. -/
def putR (most : Nat) (K : List KV) (key : ByteArray) (until_ now : Int) (K' : List KV) : Prop :=
  ((until_ ≤ now ∨ most = 0) ∧ K' = K) ∨ (now < until_ ∧ 0 < most ∧ ∃ K1, goR most K key now K1 ∧ K' = (key, until_) :: dropK K1 key)
theorem put_sm {K : List KV} {key : ByteArray} (hs : ∀ c ∈ K, c.1.size ≤ 1000) (hk : key.size ≤ 1000) (v : Int) : ∀ c ∈ (key, v) :: dropK K key, c.1.size ≤ 1000 := fun c hc => by
  rcases List.mem_cons.1 hc with rfl | hc
  · exact hk
  · exact hs c (mem_dropK.1 hc).1
theorem put_len {K : List KV} (key : ByteArray) (v : Int) {m : Nat} (h : K.length < m) : ((key, v) :: dropK K key).length ≤ m := by have := dropK_len K key; simp; omega
theorem put_len_has {K : List KV} (hn : ND K) {key : ByteArray} (v : Int) {m : Nat} (h : K.length ≤ m) (hh : hasK K key = true) : ((key, v) :: dropK K key).length ≤ m := by have := dropK_len_has hn hh; simp; omega
theorem hasK_only {K : List KV} {key : ByteArray} (h : hasK K key = false) (now : Int) : hasK (onlyK K now) key = false := by
  cases e : hasK (onlyK K now) key with
  | false => rfl
  | true =>
    obtain ⟨c, hc, e2⟩ := (hasK_iff _ _).1 e
    have := (hasK_iff K key).2 ⟨c, (List.mem_filter.1 hc).1, e2⟩
    rw [h] at this; cases this
theorem has_mem {K : List KV} {f : ByteArray} (h : f ∈ K.map (·.1)) : hasK K f = true := by
  obtain ⟨c, hc, e⟩ := List.mem_map.1 h
  exact (hasK_iff K f).2 ⟨c, hc, e⟩
theorem first_of {L : List ByteArray} {K : List KV} {f : ByteArray} (h0 : 0 < L.length) (hf : f = L[0]!) (hp : L.Perm (K.map (·.1))) (hs : L.Pairwise (fun x y => ¬ ltM K y x)) : f ∈ K.map (·.1) ∧ ∀ x ∈ K.map (·.1), ¬ ltM K x f := by
  cases L with
  | nil => simp at h0
  | cons a t =>
    obtain rfl : f = a := hf
    refine ⟨hp.mem_iff.1 List.mem_cons_self, fun x hx => ?_⟩
    rcases List.mem_cons.1 (hp.mem_iff.2 hx) with rfl | hx
    · exact ltM_irrefl K _
    · exact (List.pairwise_cons.1 hs).1 x hx
section
variable {w0 w : World} {p mb most : Nat} {K : List KV}
set_option maxHeartbeats 4000000 in
theorem MK.put (h : MK w0 w p mb most K) (key : ByteArray) (hk : key.size ≤ 1000) (until_ now : Int) : Calls Try.prog 14 #[.pointer (some ⟨p, 0, none⟩), .string key, .int .i64 until_, .int .i64 now] w fun e w' => e = .returned (.tuple #[]) ∧ ∃ K', MK w0 w' p mb most K' ∧ putR most K key until_ now K' ∧ Frm (fun i => i = mb) w w' := by
  have H := Aside0.mk h
  have HKS := Lib.hid hk
  clear h
  go_enter Try.func14, Try.ntmps14
  go_upto_region 1 with (fail)
  have fx : Frm (fun i => i = mb) w (w.alloc (.cells #[.int .i64 now] 3)) := (Frm.refl _ w).alloc _
  have hB0 := blk_new w (.cells #[.int .i64 now] 3)
  have HX : Aside0 (MK w0 (w.alloc (.cells #[.int .i64 now] 3)) p mb most K) := ⟨H.out.movedN ((Frm.refl _ w).alloc _)⟩
  obtain ⟨wx, hwx⟩ : ∃ wx, wx = w.alloc (.cells #[.int .i64 now] 3) := ⟨_, rfl⟩
  obtain ⟨T, hTe⟩ : ∃ T, T = w.heap.size := ⟨_, rfl⟩
  rw [← hwx] at fx hB0 HX ⊢
  rw [← hTe] at hB0 ⊢
  clear hwx hTe H
  have q0 := (blk_cell hB0 0).trans (show (#[Value.int .i64 now][0]? : Option Value) = some (.int .i64 now) from rfl)
  have c0 := HX.out.c0
  have c1 := HX.out.c1
  have HT := Aside0.mk hB0
  have HF := Aside0.mk fx
  clear fx hB0
  by_cases hu : until_ ≤ now
  · have d1 : decide (until_ ≤ now) = true := decide_eq_true hu
    have HU := Lib.hid hu
    clear hu
    go_wp2
    (try simp only [Exit.inBlock, Exit.then])
    refine bodyPost_ret (results_none rfl _ _ _) rfl ?_
    exact ⟨rfl, _, HX.out, .inl ⟨.inl HU.out, rfl⟩, HF.out⟩
  have d1 : decide (until_ ≤ now) = false := decide_eq_false hu
  by_cases hm : most = 0
  · have d2 : ((most : Int) == 0) = true := by simp [hm]
    have HM0 := Lib.hid hm
    clear hu hm
    go_wp2
    (try simp only [Exit.inBlock, Exit.then])
    refine bodyPost_ret (results_none rfl _ _ _) rfl ?_
    exact ⟨rfl, _, HX.out, .inl ⟨.inr HM0.out, rfl⟩, HF.out⟩
  have d2 : ((most : Int) == 0) = false := by simpa using hm
  have HLT := Lib.hid (show now < until_ ∧ 0 < most from ⟨by omega, by omega⟩)
  have hl := HX.out.m.look key (by unfold maxLen; omega) true
  rw [if_pos rfl] at hl
  have hn1 := HX.out.m.len_run 3
  have HXd := Aside0.mk (HX.out.movedN ((Frm.refl _ wx).drew))
  have hn2 : (Builtin.len_ #[65] 3 #[.map (some mb)]).run Try.prog wx.drew = .ok (.int .i64 (K.length : Nat)) wx.drew := HXd.out.m.len_run 3
  clear hu hm
  obtain ⟨gv, hgv⟩ : ∃ gv, gv = getK K key := ⟨_, rfl⟩
  rw [← hgv] at hl
  clear hgv
  by_cases hh : hasK K key = true
  · rw [hh] at hl
    have HH := Lib.hid hh
    clear hh
    go_upto_region 3 with (fail)
    go_quiet (fail)
    have HY := Aside0.mk (HX.out.movedN ((Frm.refl _ wx).drewN nq))
    have HFy := Aside0.mk (HF.out.drewN nq)
    generalize wx.drewN nq = wy at *
    clear c1 c0 hn1 hn2 hl q0 HXd HX HF
    have c1_ := HY.out.c1
    obtain ⟨w9, r9, hm9, hg9⟩ := HY.out.m.put (by have := HY.out.few; have := HY.out.big; unfold maxLen; omega) key (by unfold maxLen; omega) until_
    have H9 := Aside0.mk (HY.out.movedM hm9 (frmM hg9) (put_len_has HY.out.m.nd until_ HY.out.few HH.out) (put_sm HY.out.sm HKS.out until_))
    have HF9 := Aside0.mk (HFy.out.trans (frmM hg9))
    clear hm9 hg9
    go_wp2
    go_end0
    exact ⟨rfl, _, H9.out, .inr ⟨HLT.out.1, HLT.out.2, K, .inl ⟨.inl HH.out, rfl⟩, rfl⟩, HF9.out⟩
  have hh : hasK K key = false := by simpa using hh
  rw [hh] at hl
  have HH := Lib.hid hh
  clear hh
  by_cases hg : K.length < most
  · have d3 : decide (most ≤ K.length) = false := decide_eq_false (by omega)
    have d4 : decide ((most : Int) ≤ (K.length : Int)) = false := decide_eq_false (by omega)
    have HG := Lib.hid hg
    clear hg
    go_upto_region 3 with (fail)
    go_region_held3 (fun w' => w'.cell? ⟨p, 0, none⟩ = some (.int .i64 (most : Int)) ∧ w'.cell? ⟨p, 1, none⟩ = some (.map (some mb)) ∧ (Builtin.len_ #[65] 3 #[.map (some mb)]).run Try.prog w' = .ok (.int .i64 (K.length : Nat)) w') (go_keep) (fail)
    have HY := Aside0.mk (HX.out.movedN ((Frm.refl _ wx).drew))
    have HFy := Aside0.mk (HF.out.drew)
    generalize wx.drew = wy at *
    clear c1 c0 hn1 hn2 hl q0 HXd HX HF d3 d4
    have c1_ := HY.out.c1
    obtain ⟨w9, r9, hm9, hg9⟩ := HY.out.m.put (by have := HY.out.few; have := HY.out.big; unfold maxLen; omega) key (by unfold maxLen; omega) until_
    have H9 := Aside0.mk (HY.out.movedM hm9 (frmM hg9) (put_len key until_ HG.out) (put_sm HY.out.sm HKS.out until_))
    have HF9 := Aside0.mk (HFy.out.trans (frmM hg9))
    clear hm9 hg9
    go_wp2
    go_end0
    exact ⟨rfl, _, H9.out, .inr ⟨HLT.out.1, HLT.out.2, K, .inl ⟨.inr HG.out, rfl⟩, rfl⟩, HF9.out⟩
  have d3 : decide (most ≤ K.length) = true := decide_eq_true (by omega)
  have d4 : decide ((most : Int) ≤ (K.length : Int)) = true := decide_eq_true (by omega)
  have HG := Lib.hid (show most ≤ K.length by omega)
  clear hg
  go_upto_region 3 with (fail)
  go_region_held3 (fun w' => w'.cell? ⟨p, 0, none⟩ = some (.int .i64 (most : Int)) ∧ w'.cell? ⟨p, 1, none⟩ = some (.map (some mb)) ∧ (Builtin.len_ #[65] 3 #[.map (some mb)]).run Try.prog w' = .ok (.int .i64 (K.length : Nat)) w') (go_keep) (fail)
  have HY := Aside0.mk (HX.out.movedN ((Frm.refl _ wx).drew))
  have HFy := Aside0.mk (HF.out.drew)
  have HTy : Aside0 ((wx.drew).heap[T]? = some (.cells #[.int .i64 now] 3 (0, 0))) := ⟨HT.out⟩
  generalize wx.drew = wy at *
  clear c1 c0 hn1 hn2 hl q0 HXd HX HF d3 d4 HT
  have c1 := HY.out.c1
  have HFI := Aside0.mk (HY.out.m.filter now T HTy.out)
  go_wp2_with fail
  (with_reducible refine HFI.out.mono ?_); rintro e w2 ⟨rfl, hm2, hg2⟩
  have H2 := Aside0.mk (HY.out.movedM hm2 (frmM hg2) (Nat.le_trans (onlyK_len K now) HY.out.few) (fun c hc => HY.out.sm c (List.mem_filter.1 hc).1))
  have HF2 := Aside0.mk (HFy.out.trans (frmM hg2))
  have HO := Lib.hid (hasK_only HH.out now)
  clear hm2 hg2 HFI HY HFy HTy c1
  have c0 := H2.out.c0
  have c1 := H2.out.c1
  have hn1 := H2.out.m.len_run 3
  have H2d := Aside0.mk (H2.out.movedN ((Frm.refl _ w2).drew))
  have hn2 : (Builtin.len_ #[65] 3 #[.map (some mb)]).run Try.prog w2.drew = .ok (.int .i64 ((onlyK K now).length : Nat)) w2.drew := H2d.out.m.len_run 3
  obtain ⟨K2, hK2⟩ : ∃ K2, K2 = onlyK K now := ⟨_, rfl⟩
  rw [← hK2] at hn1 hn2 H2 H2d HO
  have HK2 := Lib.hid hK2
  clear hK2
  by_cases hg : K2.length < most
  · have d3 : decide (most ≤ K2.length) = false := decide_eq_false (by omega)
    have d4 : decide ((most : Int) ≤ (K2.length : Int)) = false := decide_eq_false (by omega)
    have HG2 := Lib.hid hg
    clear hg
    go_upto_region 5 with (fail)
    go_region_held3 (fun w' => w'.cell? ⟨p, 0, none⟩ = some (.int .i64 (most : Int)) ∧ w'.cell? ⟨p, 1, none⟩ = some (.map (some mb)) ∧ (Builtin.len_ #[65] 3 #[.map (some mb)]).run Try.prog w' = .ok (.int .i64 (K2.length : Nat)) w') (go_keep) (fail)
    have HY := Aside0.mk (H2.out.movedN ((Frm.refl _ w2).drew))
    have HFy := Aside0.mk (HF2.out.drew)
    generalize w2.drew = wy at *
    clear c1 c0 hn1 hn2 H2d H2 HF2 d3 d4
    have c1_ := HY.out.c1
    obtain ⟨w9, r9, hm9, hg9⟩ := HY.out.m.put (by have := HY.out.few; have := HY.out.big; unfold maxLen; omega) key (by unfold maxLen; omega) until_
    have H9 := Aside0.mk (HY.out.movedM hm9 (frmM hg9) (put_len key until_ HG2.out) (put_sm HY.out.sm HKS.out until_))
    have HF9 := Aside0.mk (HFy.out.trans (frmM hg9))
    clear hm9 hg9
    go_wp2
    go_end0
    exact ⟨rfl, _, H9.out, .inr ⟨HLT.out.1, HLT.out.2, K2, .inr ⟨HH.out, HG.out, .inl (by rw [← HK2.out]; exact ⟨HG2.out, rfl⟩)⟩, rfl⟩, HF9.out⟩
  have d3 : decide (most ≤ K2.length) = true := decide_eq_true (by omega)
  have d4 : decide ((most : Int) ≤ (K2.length : Int)) = true := decide_eq_true (by omega)
  have HG2 := Lib.hid (show most ≤ K2.length by omega)
  clear hg
  go_upto_region 5 with (fail)
  go_region_held3 (fun w' => w'.cell? ⟨p, 0, none⟩ = some (.int .i64 (most : Int)) ∧ w'.cell? ⟨p, 1, none⟩ = some (.map (some mb)) ∧ (Builtin.len_ #[65] 3 #[.map (some mb)]).run Try.prog w' = .ok (.int .i64 (K2.length : Nat)) w') (go_keep) (fail)
  have HY := Aside0.mk (H2.out.movedN ((Frm.refl _ w2).drew))
  have HFy := Aside0.mk (HF2.out.drew)
  generalize w2.drew = wy at *
  clear c1 c0 hn1 hn2 H2d H2 HF2 d3 d4
  have c1 := HY.out.c1
  have HRW : Aside0 (∀ {w'}, MK w0 w' p mb most K2 → Calls Try.prog 38 #[.pointer (some ⟨p, 0, none⟩)] w' fun e w'' => ∃ (A : Addr) (c : Nat) (L : List ByteArray), e = .returned (.slice (some A) L.length c) ∧ L.Perm (K2.map (·.1)) ∧ L.Pairwise (fun x y => ¬ ltM K2 y x) ∧ 0 < L.length ∧ w''.cell? A = some (.string L[0]!) ∧ Frm (fun _ => False) w' w'') := ⟨fun h => row_any h.m h.sm (by have := h.few; have := h.big; omega) (by have := HG2.out; have := HLT.out; omega) h.hd rfl⟩
  have HYd := Aside0.mk (HY.out.movedN ((Frm.refl _ wy).drew))
  have HFd := Aside0.mk HFy.out.drew
  go_upto_region 6 with (fail)
  go_region_with (first
    | (go_at_call 38; refine (HRW.out HYd.out).mono ?_; rintro e w4 ⟨A, c, L, rfl, hp4, hs4, hl4, q4, f4⟩; have H4 := Aside0.mk (HYd.out.movedN f4); have x1 := H4.out.c1; obtain ⟨f, hfe⟩ : ∃ f, f = L[0]! := ⟨_, rfl⟩; rw [← hfe] at q4; have HFM := Lib.hid (first_of hl4 hfe hp4 hs4); clear hfe; have HFS : Hid (f.size ≤ 1000) := Lib.hid (by obtain ⟨c, hc, e⟩ := List.mem_map.1 HFM.out.1; rw [← e]; exact HYd.out.sm c hc); obtain ⟨w5, r5, hm5, hg5⟩ := H4.out.m.del f (by have := HFS.out; unfold maxLen; omega) 0; have hdl := dropK_len_has H4.out.m.nd (has_mem HFM.out.1); have H5 := Aside0.mk (H4.out.movedM hm5 (frmM hg5) (by have := H4.out.few; omega) (fun c hc => H4.out.sm c (mem_dropK.1 hc).1)); have x5 := H5.out.c1; have HF5 := Aside0.mk ((HFd.out.then f4 (fun _ _ e => e.elim)).trans (frmM hg5)); have HDL := Lib.hid hdl; clear hm5 hg5 hdl hp4 hs4 f4))
  all_goals (
    have c1_ := H5.out.c1
    obtain ⟨w9, r9, hm9, hg9⟩ := H5.out.m.put (by have := H5.out.few; have := H5.out.big; unfold maxLen; omega) key (by unfold maxLen; omega) until_
    have H9 := Aside0.mk (H5.out.movedM hm9 (frmM hg9) (put_len key until_ (by have := HDL.out; have := H4.out.few; omega)) (put_sm H5.out.sm HKS.out until_))
    have HF9 := Aside0.mk (HF5.out.trans (frmM hg9))
    clear hm9 hg9
    go_wp2
    go_end0
    exact ⟨rfl, _, H9.out, .inr ⟨HLT.out.1, HLT.out.2, _, .inr ⟨HH.out, HG.out, .inr (by rw [← HK2.out]; exact ⟨HG2.out, f, HFM.out.1, HFM.out.2, rfl⟩)⟩, rfl⟩, HF9.out⟩)
end
end Go.Proofs.Ytehlhaddbfjllaa.Mp
