/- Maps of texts to numbers, and what counts in them: a part of the proof. -/
import Derived.Test.YtehlhaddbfjllaaOMB
namespace Go.Proofs.Ytehlhaddbfjllaa.Mp
open Go.RowKit Go.Sort Go.Proofs.YtehlhaddbfjllaaW.PrintWords Go.Proofs.YtehlhaddbfjllaaW.PrintLast Go.Maps Go.WideMaps
set_option maxRecDepth 100000
set_option linter.unusedVariables false
attribute [local go_sem ↓] Go.wp_at_zero Go.wp_at_succ
theorem grow_alloc (w : World) (o : Obj) : w.alloc o = grow w #[o] := by unfold grow World.alloc; rw [Array.push_eq_append]
section
variable {W : World} {mb p B g cap : Nat} {K : List KV} {cur : Array Value} {ks : List KS} {cb cp : Array Value}
theorem sort_any (hm : MI W mb K) (hB : W.heap[B]? = some (.cells #[.pointer (some ⟨p, 0, none⟩)] 25 (0, 0))) (hp : W.heap[p]? = some (.cells cp 67 (0, 0))) (hp1 : cp[1]? = some (.map (some mb))) (hg : W.heap[g]? = some (.cells cur 9 (0, 0))) (ht : cur.toList.take ks.length = ks.map encK) (hl : ks.length ≤ 1000000) :
    Calls Try.prog 57 #[.slice (some ⟨g, 0, none⟩) ks.length cap, .func (.func 58) #[] #[.pointer (some ⟨B, 0, none⟩)]] W fun e w' => e = .returned (.tuple #[]) ∧ ∃ n os, w' = sortWorld encK W g 0 n (ks.mergeSort fun x y => !(ltOf (cfM K)) y x).toArray os := by
  have hmg : mb ≠ g := fun e => by
    obtain ⟨es, c, hb⟩ := hm.blk
    rw [e, hg] at hb
    cases hb
  have hBg : B ≠ g := fun e => by
    rw [e, hg] at hB
    injection hB with hB
    injection hB with _ hB
    cases hB
  have hpg : p ≠ g := fun e => by
    rw [e, hg] at hp
    injection hp with hp
    injection hp with _ hp
    cases hp
  have hcmp : CmpLays1 Try.prog 58 #[.pointer (some ⟨B, 0, none⟩)] encK (cfM K) g 0 ks.toArray.size W := by
    intro m os dk hdk x y
    have hgr : W.grownBy (sortWorld encK W g 0 m dk os) (some g) := grown_gen encK dk
    have hb : ∀ b o, W.heap[b]? = some o → b ≠ g → (sortWorld encK W g 0 m dk os).heap[b]? = some o := fun b o hbo hne => (hgr.block b (blk_lt hbo) (fun e => hne (Option.some.inj e))).trans hbo
    have hm2 : MI (sortWorld encK W g 0 m dk os) mb K := hm.frm (hgr.block mb hm.lt (fun e => hmg (Option.some.inj e)))
    have hB2 := (blk_cell (hb B _ hB hBg) 0).trans (show (#[Value.pointer (some ⟨p, 0, none⟩)][0]? : Option Value) = some (.pointer (some ⟨p, 0, none⟩)) from rfl)
    have hp2 := (blk_cell (hb p _ hp hpg) 1).trans hp1
    refine (rowcmp hm2 hB2 hp2 x.1 y.1 x.2 y.2).mono ?_
    rintro e w' ⟨a, o, rfl⟩
    exact ⟨a, 1, #[o], grow_alloc _ o⟩
  have h := Any.slices_SortFunc_total Try.sortf57 encK (fun x => rfl) (cfM K) (swoM K) 58 #[.pointer (some ⟨B, 0, none⟩)] g 0 cap ks.toArray W (enters_of Try.func58 (by kernel_rfl) rfl) hcmp (holds_gen encK hg ht) (blk_lt hg) (by rw [List.size_toArray]; omega) (totM K)
  rw [List.size_toArray] at h
  exact h
theorem names_sorted (K : List KV) (ks : List KS) : (ks.mergeSort fun x y => !(ltOf (cfM K)) y x).Pairwise fun x y => ¬ ltM K y.1 x.1 := by
  have h := List.pairwise_mergeSort (le := fun x y : KS => !(ltOf (cfM K)) y x) (fun a b c h1 h2 => by
    simp only [Bool.not_eq_true'] at h1 h2 ⊢
    exact (swoM K).ntrans c b a h2 h1) (fun a b => by
    cases h1 : ltOf (cfM K) b a with
    | false => rfl
    | true =>
      cases h2 : ltOf (cfM K) a b with
      | false => rfl
      | true => exact absurd (ltM_trans ((ltOf_iff K b a).1 h1) ((ltOf_iff K a b).1 h2)) (ltM_irrefl K _)) ks
  exact h.imp fun {a b} hab => (ltOf_no K b a).1 (by simpa using hab)
end
set_option maxHeartbeats 2000000 in
/-- All names, the one that ends first in front. -/
theorem row_any {w : World} {mb p : Nat} {K : List KV} {cp : Array Value} (hm : MI w mb K) (hsm : ∀ c ∈ K, c.1.size ≤ 1000) (hl : K.length ≤ 1000000) (h0 : 0 < K.length) (hp : w.heap[p]? = some (.cells cp 67 (0, 0))) (hp1 : cp[1]? = some (.map (some mb))) :
    Calls Try.prog 38 #[.pointer (some ⟨p, 0, none⟩)] w fun e w' => ∃ (A : Addr) (c : Nat) (L : List ByteArray), e = .returned (.slice (some A) L.length c) ∧ L.Perm (K.map (·.1)) ∧ L.Pairwise (fun x y => ¬ ltM K y x) ∧ 0 < L.length ∧ w'.cell? A = some (.string L[0]!) ∧ Frm (fun _ => False) w w' := by
  go_enter Try.func38, Try.ntmps38
  go_upto_region 1 with (fail)
  have fx : Frm (fun _ => False) w (w.alloc (.cells #[.pointer (some ⟨p, 0, none⟩)] 25)) := (Frm.refl _ w).alloc _
  have hB0 := blk_new w (.cells #[.pointer (some ⟨p, 0, none⟩)] 25)
  obtain ⟨wx, hwx⟩ : ∃ wx, wx = w.alloc (.cells #[.pointer (some ⟨p, 0, none⟩)] 25) := ⟨_, rfl⟩
  obtain ⟨B, hBe⟩ : ∃ B, B = w.heap.size := ⟨_, rfl⟩
  rw [← hwx] at fx hB0 ⊢
  rw [← hBe] at hB0 ⊢
  clear hwx hBe
  have hmx : MI wx mb K := hm.frm (fx.block mb hm.lt (fun e => e))
  have hpx := fx.blk hp (fun e => e)
  have q0 := (blk_cell hB0 0).trans (show (#[Value.pointer (some ⟨p, 0, none⟩)][0]? : Option Value) = some (.pointer (some ⟨p, 0, none⟩)) from rfl)
  have q1 := (blk_cell hpx 1).trans hp1
  have HK := Aside0.mk (keys_any mb wx)
  have HC := Aside0.mk (coll_any hmx hl)
  have HM := Aside0.mk hmx
  have HB := Aside0.mk hB0
  have HP := Aside0.mk hpx
  have HP1 := Aside0.mk hp1
  have HF := Aside0.mk fx
  clear hm hp hp1 fx hB0 hmx hpx
  go_wp2_with fail
  (with_reducible refine HK.out.mono ?_); rintro e w2 ⟨rfl, rfl⟩
  go_wp2_with fail
  (with_reducible refine HC.out.mono ?_); rintro e W ⟨v, ss, rfl, hS, hrow, fW⟩
  have hlen : ss.length = K.length := by rw [hS.length_eq]; unfold keysK; rw [List.length_map]
  obtain ⟨ks, hks⟩ := ks_of (ss := ss) (fun l hl' => by
    have := hS.mem_iff.1 hl'
    unfold keysK at this
    obtain ⟨c, hc, rfl⟩ := List.mem_map.1 this
    have h2 := hsm c hc
    have : c.1.data.toList.length = c.1.size := by rw [Array.length_toList]; rfl
    omega)
  have hkl : ks.length = ss.length := by rw [← hks, List.length_map]
  rw [← hks, enc_ks, List.length_map] at hrow
  rcases hrow.2 with ⟨_, h1⟩ | ⟨g, cap, cur, rfl, hbase, hgb, r1, r2, r3, r4⟩
  · omega
  have hmW : MI W mb K := HM.out.frm (fW.block mb HM.out.lt (fun e => e))
  have hBW := fW.blk HB.out (fun e => e)
  have hPW := fW.blk HP.out (fun e => e)
  have HSO := Aside0.mk (sort_any (cap := cap) hmW hBW hPW HP1.out hgb (by simpa using r4) (by omega))
  have HFW := Aside0.mk (HF.out.trans fW)
  have HG := Aside0.mk hgb
  have HR := Lib.hid (show ks.length ≤ cap ∧ cap ≤ maxLen ∧ cur.size = cap * 1 from ⟨r1, r2, r3⟩)
  have HSS := Lib.hid hS
  have HKS := Lib.hid hks
  have HLE := Lib.hid (show ks.length = K.length by omega)
  have HBS := Lib.hid (show W.heap.size > g ∧ w.heap.size ≤ g from ⟨blk_lt hgb, by have h2 := HF.out.size; have h3 : (wx.alloc (.cells #[.map (some mb)] 65)).heap.size = wx.heap.size + 1 := (by simp); omega⟩)
  clear hrow r1 r2 r3 r4 hgb hmW hBW hPW fW hS hks hkl hlen hbase HK HC
  go_wp2_with fail
  (with_reducible refine HSO.out.mono ?_); rintro e w5 ⟨rfl, nn, os, rfl⟩
  have HN := Lib.hid (names_sorted K ks)
  have HPM := Lib.hid (List.mergeSort_perm ks fun x y => !(ltOf (cfM K)) y x)
  generalize (ks.mergeSort fun x y => !(ltOf (cfM K)) y x) = ts at *
  go_wp2
  go_ret
  have hgr : W.grownBy (sortWorld encK W g 0 nn ts.toArray os) (some g) := grown_gen encK _
  have hown : (sortWorld encK W g 0 nn ts.toArray os).ownsRow 0 9 1 (.slice (some ⟨g, 0, none⟩) ks.length cap) ks.length (ts.map encK) := owns_gen encK HPM.out.length_eq (Nat.zero_le _) HG.out HR.out.1 HR.out.2.1 HR.out.2.2
  have htl : ts.length = K.length := by rw [HPM.out.length_eq, HLE.out]
  refine ⟨⟨g, 0, none⟩, cap, ts.map (·.1), by rw [List.length_map, HPM.out.length_eq]; rfl, ?_, ?_, by rw [List.length_map]; omega, ?_, ?_⟩
  · have e1 : (ks.map fun x => x.1.data.toList).Perm (keysK K) := by rw [HKS.out]; exact HSS.out
    have e2 := e1.map bz
    unfold keysK at e2
    rw [List.map_map, List.map_map] at e2
    have e3 : (bz ∘ fun x : KS => x.1.data.toList) = fun x : KS => x.1 := by funext x; rfl
    have e4 : (bz ∘ fun c : KV => c.1.data.toList) = fun c : KV => c.1 := by funext x; rfl
    rw [e3, e4] at e2
    exact (HPM.out.map _).trans e2
  · exact List.pairwise_map.2 HN.out
  · have hh := heap_gen encK (n := nn) (os := os) ts.toArray HG.out
    have ht := take_gen encK cur ts (by have := HR.out; have := HPM.out.length_eq; omega)
    have h1 : (putCells encK 0 ts.toArray cur).toList[0]? = (ts.map encK)[0]? := by rw [← ht, List.getElem?_take_of_lt (by omega)]
    refine (blk_cell hh 0).trans ?_
    rw [← Array.getElem?_toList, h1]
    cases ts with
    | nil => simp at htl; omega
    | cons x t => rfl
  · have hs := hgr.size
    refine ⟨hgr.os.trans HFW.out.os, hgr.tape.trans HFW.out.tape, hgr.output.trans HFW.out.output, by have := HFW.out.size; omega, fun k hk hn => ?_⟩
    exact (hgr.block k (by have := HFW.out.size; omega) (fun e => by have := Option.some.inj e; have := HBS.out; omega)).trans (HFW.out.block k hk hn)
end Go.Proofs.Ytehlhaddbfjllaa.Mp
