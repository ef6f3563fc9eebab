/- A part of the proof. -/
import Derived.Test.YtjgoddieamphpaaOWI
namespace Go.Proofs.Ytjgoddieamphpaa.Wh
open Go.RowKit Go.Sort Go.Proofs.YtjgoddieamphpaaW.PrintWords Go.Proofs.YtjgoddieamphpaaW.PrintLast Heap Go.Proofs.Ytjgoddieamphpaa.Obj Go.Maps Go.WideMaps
set_option maxRecDepth 100000
set_option linter.unusedVariables false
abbrev KV := ByteArray × Int
def kv (xs : List It) : List KV := xs.map (·.2)
def dropK (K : List KV) (k : ByteArray) : List KV := K.filter fun c => decide (c.1 ≠ k)
theorem dropK_perm {K L : List KV} (h : K.Perm L) (k : ByteArray) : (dropK K k).Perm (dropK L k) := h.filter _
theorem dropK_none {K : List KV} {k : ByteArray} (h : ∀ c ∈ K, c.1 ≠ k) : dropK K k = K := List.filter_eq_self.2 fun c hc => decide_eq_true (h c hc)
theorem dropK_cons {K : List KV} {k : ByteArray} {t : Int} (h : ∀ c ∈ K, c.1 ≠ k) : dropK ((k, t) :: K) k = K := by
  unfold dropK
  rw [List.filter_cons, if_neg (by simp)]
  exact dropK_none h
section
variable {w w1 : World} {p mb : Nat} {v : Value} {xs : List It} {D : DataW Unit}
theorem WS.apart {y : It} {ys : List It} (hn : (xs.map (·.2.1)).Nodup) (hp : (y :: ys).Perm xs) : ∀ z ∈ ys, z.2.1 ≠ y.2.1 := fun z hz e => by
  have := (hp.map (·.2.1)).nodup_iff.2 hn
  rw [List.map_cons, List.nodup_cons] at this
  exact this.1 (by rw [← e]; exact List.mem_map.2 ⟨z, hz, rfl⟩)
theorem kv_apart {ys : List It} {k : ByteArray} (h : ∀ z ∈ ys, z.2.1 ≠ k) : ∀ c ∈ kv ys, c.1 ≠ k := fun c hc => by
  obtain ⟨z, hz, rfl⟩ := List.mem_map.1 hc
  exact h z hz
theorem wdrop_any (h : WS w p mb v xs D) (k : ByteArray) (hs : k.size ≤ 1000) : Calls Try.prog 29 #[.pointer (some ⟨p, 0, none⟩), .string k] w fun e w' => e = .returned (.bool (decide (∃ c ∈ kv xs, c.1 = k))) ∧ ∃ v' ys D', WS w' p mb v' ys D' ∧ (kv ys).Perm (dropK (kv xs) k) ∧ (∀ y ∈ ys, y.2.1 ≠ k) ∧ (∀ b, FO p mb v' ys b → FO p mb v xs b) ∧ Frm (FO p mb v xs) w w' ∧ ys.length ≤ xs.length := by
  by_cases hy : ∃ y ∈ xs, y.2.1 = k
  · obtain ⟨y, hy, rfl⟩ := hy
    refine (wdrop_hit h y hy).mono ?_
    rintro e w' ⟨a, v', ys, D', h1, h2, h3, h4⟩
    have hne := WS.apart h.kn h2
    refine ⟨a.trans ?_, v', ys, D', h1, ?_, hne, ?_, h4, by have := h2.length_eq; simp at this; omega⟩
    · rw [decide_eq_true (show ∃ c ∈ kv xs, c.1 = y.2.1 from ⟨y.2, List.mem_map.2 ⟨y, hy, rfl⟩, rfl⟩)]
    · have h5 := dropK_perm (h2.map (·.2)) y.2.1
      have h6 : dropK ((y :: ys).map (·.2)) y.2.1 = kv ys := dropK_cons (t := y.2.2) (kv_apart hne)
      rw [h6] at h5
      exact h5
    · rintro b (e | e | e | e)
      · exact .inl e
      · exact .inr (.inl e)
      · exact .inr (.inr (.inl (by rw [e, h3])))
      · exact .inr (.inr (.inr ((h2.map (·.1)).mem_iff.1 (by rw [List.map_cons]; exact List.mem_cons_of_mem _ e))))
  · have hne : ∀ y ∈ xs, y.2.1 ≠ k := fun y h1 e => hy ⟨y, h1, e⟩
    refine (wdrop_miss h k hs hne).mono ?_
    rintro e w' ⟨a, rfl⟩
    refine ⟨a.trans ?_, v, xs, D, h, by rw [dropK_none (kv_apart hne)], hne, fun b hb => hb, Frm.refl _ _, Nat.le_refl _⟩
    rw [decide_eq_false]
    rintro ⟨c, hc, e⟩
    exact kv_apart hne c hc e
theorem wput_nil (k : ByteArray) (t : Int) (w : World) : Calls Try.prog 27 #[.pointer none, .string k, .int .i64 t] w fun e w' => e = .returned (.tuple #[]) ∧ w = w' := by
  go_enter Try.func27, Try.ntmps27
  go_wp2
  (try simp only [Exit.inBlock, Exit.then]); refine bodyPost_ret (results_none rfl _ _ _) rfl ?_
  exact ⟨rfl, rfl⟩
set_option maxHeartbeats 1000000 in
theorem wput_any (h : WS w p mb v xs D) (k : ByteArray) (hs : k.size ≤ 1000) (t : Int) (hl : xs.length < 9999) : Calls Try.prog 27 #[.pointer (some ⟨p, 0, none⟩), .string k, .int .i64 t] w fun e w' => e = .returned (.tuple #[]) ∧ ∃ v' zs D', WS w' p mb v' zs D' ∧ (kv zs).Perm (dropK (kv xs) k ++ [(k, t)]) ∧ (∀ b, FO p mb v' zs b → FO p mb v xs b ∨ w.heap.size ≤ b) ∧ Frm (FO p mb v xs) w w' := by
  have H := Aside0.mk h
  have hs' := Lib.hid hs
  have hsm := Lib.hid (show k.size ≤ maxLen by unfold maxLen; omega)
  clear h hs
  go_enter Try.func27, Try.ntmps27
  go_wp2_with fail
  (with_reducible refine (wdrop_any H.out k hs'.out).mono ?_); rintro e w2 ⟨rfl, v2, ys, D2, h2, hp2, hn2, ho2, hf2, hl2⟩
  have H2 := Aside0.mk h2
  have HP2 := Lib.hid hp2
  have HN2 := Lib.hid hn2
  have HO2 := Lib.hid ho2
  have HF2 := Lib.hid hf2
  have HS2 := Lib.hid (show w.heap.size ≤ w2.heap.size from hf2.size)
  have HYL := Lib.hid (show ys.length < maxLen by unfold maxLen; omega)
  clear h2 hp2 hn2 ho2 hf2
  go_upto_region 3 with (fail)
  obtain ⟨wa, hwa⟩ : ∃ wa, wa = w2.alloc (.cells #[.string k, .int .i64 t, .int .i64 0] 111) := ⟨_, rfl⟩
  rw [← hwa]
  obtain ⟨q, hq⟩ : ∃ q, q = w2.heap.size := ⟨_, rfl⟩
  rw [← hq]
  have hfa : Frm (FO p mb v xs) w wa := by rw [hwa]; exact HF2.out.alloc _
  have hfa2 : Frm (fun _ => False) w2 wa := by rw [hwa]; exact (Frm.refl _ w2).alloc _
  have hqa : wa.heap[q]? = some (.cells #[.string k, .int .i64 t, .int .i64 0] 111 (0, 0)) := by rw [hwa, hq]; exact blk_new _ _
  have HA : Aside0 (WS wa p mb v2 ys D2) := ⟨H2.out.frm hfa2 (fun _ _ e => e)⟩
  have HFA := Lib.hid hfa
  have HQA := Lib.hid hqa
  have HQ := Lib.hid hq
  have HMA := Aside0.mk HA.out.m
  have hpm := HA.out.r.c1
  have hnq : q ∉ ys.map (·.1) := fun e => by
    have := H2.out.own_lt q (.inr (.inr (.inr e)))
    rw [hq] at this; omega
  have HNQ := Lib.hid hnq
  clear hwa hfa hfa2 hqa hq hnq
  go_upto_region 4 with (first | (at_mapUpdate; refine wp_store _ rfl _ _ _ rfl mb ys D2 rfl HMA.out HYL.out (q, k, t) rfl rfl hsm.out HN2.out ?_; intro w3 D3 hM3 hG3; have HM3 := Aside0.mk hM3; have HG3 := Aside0.mk hG3; clear hM3 hG3))
  have hg3 : Frm (fun j => j = mb) wa w3 := ⟨HG3.out.os, HG3.out.tape, HG3.out.output, HG3.out.size, fun j hj hn => HG3.out.block j hj (fun e => hn (by injection e))⟩
  have HW3 : Aside0 (WR w3 p (.map (some mb)) v2 ys) := ⟨HA.out.r.frm hg3 (fun b hb e => by subst e; exact map_far HA.out.r HA.out.m.blk hb)⟩
  have HQ3 : Aside0 (w3.heap[q]? = some (.cells #[.string k, .int .i64 t, .int .i64 0] 111 (0, 0))) := Aside0.mk (hg3.blk HQA.out (fun e => by obtain ⟨es, c, hb⟩ := HA.out.m.blk; rw [← e, HQA.out] at hb; cases hb))
  have HF3 := Lib.hid (HFA.out.then hg3 (fun b _ hb => .inr (.inl hb)))
  have HS3 := Lib.hid (Nat.le_trans HFA.out.size hg3.size)
  clear hg3 hpm
  go_wp2_with fail
  (with_reducible refine (hpush_any HW3.out HA.out.ok HQ3.out HNQ.out (by omega)).mono ?_); rintro e w4 ⟨rfl, v4, zs, h4, hp4, ho4, hw4, hf4⟩
  have H4 := Aside0.mk h4
  have HP4 := Lib.hid hp4
  have HO4 := Lib.hid ho4
  have HW4 := Lib.hid hw4
  have HF4 := Lib.hid hf4
  clear h4 hp4 ho4 hw4 hf4
  go_wp2
  go_end0
  obtain ⟨es, c, hmb⟩ := HM3.out.blk
  have hq3 := HQ3.out
  have hnm : ¬ (mb = p ∨ mb = q ∨ FW v2 ys mb) := by
    rintro (e | e | e)
    · exact map_far HW3.out HM3.out.blk (.inl e)
    · rw [e, hq3] at hmb; cases hmb
    · exact map_far HW3.out HM3.out.blk (.inr e)
  have hM4 : MapOf w4 mb zs D3 := (HM3.out.frm (HF4.out.block mb (blk_lt hmb) hnm)).perm HP4.out
  have hkn : ((ys ++ [(q, k, t)]).map (·.2.1)).Nodup := by
    rw [List.map_append]
    refine List.nodup_append.2 ⟨HA.out.kn, by simp, fun a ha b hb => ?_⟩
    have hb : b = k := by simpa using hb
    subst hb
    obtain ⟨y, hy, rfl⟩ := List.mem_map.1 ha
    exact HN2.out y hy
  have hwsz := HS3.out
  have hw2 := HS2.out
  refine ⟨rfl, v4, zs, D3, ⟨H4.out, hM4, HO4.out, (HP4.out.map (·.2.1)).nodup_iff.2 hkn, fun x hx => ?_⟩, ?_, ?_, ?_⟩
  · rcases List.mem_append.1 (HP4.out.mem_iff.1 hx) with hx | hx
    · exact HA.out.ks x hx
    · obtain rfl := List.mem_singleton.1 hx; exact hs'.out
  · have h5 : (kv zs).Perm (kv (ys ++ [(q, k, t)])) := HP4.out.map (fun x : It => x.2)
    refine h5.trans ?_
    show ((ys ++ [(q, k, t)]).map (·.2)).Perm _
    rw [List.map_append]
    exact HP2.out.append_right _
  · rintro b (e | e | e | e)
    · exact .inl (.inl e)
    · exact .inl (.inr (.inl e))
    · rcases HW4.out b e with e | e
      · exact .inl (HO2.out b (.inr (.inr (.inl e))))
      · exact .inr (Nat.le_trans hwsz e)
    · have e := (HP4.out.map (·.1)).mem_iff.1 e
      rw [List.map_append] at e
      rcases List.mem_append.1 e with e | e
      · exact .inl (HO2.out b (.inr (.inr (.inr e))))
      · have e : b = q := by simpa using e
        rw [e, HQ.out]; exact .inr hw2
  · refine HF3.out.then HF4.out (fun b hb e => ?_)
    rcases e with e | e | e
    · exact .inl e
    · rw [e, HQ.out] at hb; omega
    · exact HO2.out b (.inr (.inr e))
end
end Go.Proofs.Ytjgoddieamphpaa.Wh
