/- A part of the proof. -/
import Derived.Test.YtjgoddieamphpaaOWH
namespace Go.Proofs.Ytjgoddieamphpaa.Wh
open Go.RowKit Go.Sort Go.Proofs.YtjgoddieamphpaaW.PrintWords Go.Proofs.YtjgoddieamphpaaW.PrintLast Heap Go.Proofs.Ytjgoddieamphpaa.Obj Go.Maps Go.WideMaps
set_option maxRecDepth 100000
set_option linter.unusedVariables false
section
variable {w w1 : World} {p mb : Nat} {v : Value} {xs : List It} {D : DataW Unit}
theorem FW.blk {u : Value} (h : WR w p u v xs) {b : Nat} (hb : FW v xs b) : ∃ cs t, w.heap[b]? = some (.cells cs t (0, 0)) ∧ (t = 109 ∨ t = 111) := by
  rcases hb with e | e
  · obtain ⟨cs, hb⟩ := row_blk h.row e; exact ⟨cs, _, hb, .inl rfl⟩
  · obtain ⟨x, hx, rfl⟩ := List.mem_map.1 e
    obtain ⟨i, hi, he⟩ := List.mem_iff_getElem.1 hx
    have h1 := h.it i hi
    have h2 := el_at (z := z0) xs i hi
    rw [List.getElem?_eq_getElem hi] at h2
    injection h2 with h2
    rw [← h2, he] at h1
    exact ⟨_, _, h1, .inr rfl⟩
theorem map_far {u : Value} (h : WR w p u v xs) (hm : ∃ es c, w.heap[mb]? = some (.map es c)) : ¬ (mb = p ∨ FW v xs mb) := by
  obtain ⟨es, c, hb⟩ := hm
  rintro (rfl | e)
  · rw [h.hd] at hb; cases hb
  · obtain ⟨cs, t, h1, _⟩ := e.blk h
    rw [h1] at hb; cases hb
theorem WS.drew (h : WS w p mb v xs D) : WS w.drew p mb v xs D := ⟨⟨h.r.hd, h.r.row, h.r.it, h.r.bn, h.r.few⟩, h.m.frm rfl, h.ok, h.kn, h.ks⟩
theorem wnext_none (h : WS w p mb v xs D) (h0 : xs.length = 0) : Calls Try.prog 34 #[.pointer (some ⟨p, 0, none⟩)] w fun e w' => e = .returned (.tuple #[.string ⟨#[]⟩, .int .i64 0, .bool false]) ∧ ∃ n, w' = w.drewN n := by
  have H := Aside0.mk h
  have HL : Calls Try.prog 38 #[.pointer (some ⟨p, 0, none⟩)] w fun e w' => e = .returned (.int .i64 0) ∧ w = w' := by
    refine (whlen_any h).mono ?_
    rintro e w' ⟨a, b⟩
    exact ⟨by rw [a, h0]; rfl, b⟩
  have HL := Aside0.mk HL
  clear h
  go_enter Try.func34, Try.ntmps34
  go_wp2_with fail
  (with_reducible refine HL.out.mono ?_); rintro e w2 ⟨rfl, rfl⟩
  go_wp2
  go_ret3
  exact ⟨rfl, 0, rfl⟩
theorem wnext_some (h : WS w p mb v xs D) (m : Nat) (hm : xs.length = m + 1) : Calls Try.prog 34 #[.pointer (some ⟨p, 0, none⟩)] w fun e w' => e = .returned (.tuple #[.string (el z0 xs 0).2.1, .int .i64 (el z0 xs 0).2.2, .bool true]) ∧ ∃ n, w' = w.drewN n := by
  have HL : Calls Try.prog 38 #[.pointer (some ⟨p, 0, none⟩)] w fun e w' => e = .returned (.int .i64 ((m : Int) + 1)) ∧ w = w' := by
    refine (whlen_any h).mono ?_
    rintro e w' ⟨a, b⟩
    exact ⟨by rw [a, hm]; simp, b⟩
  have HL := Aside0.mk HL
  obtain ⟨ad, c, rfl, hc, q1⟩ := h.r.cell 0 (by omega)
  have c0 := h.r.c0
  have a1 := h.r.k1 0 (by omega)
  have b1 := h.r.k0 0 (by omega)
  have e0 : (((m : Int) + 1) == 0) = false := by simp; omega
  have hpos : 0 < xs.length := by omega
  have hz : ad.add 0 = ad := by simp [Addr.add]
  rw [hz] at q1
  generalize el z0 xs 0 = X at *
  obtain ⟨x, kx, tx⟩ := X
  simp only [ptr] at q1 a1 b1
  clear h
  go_enter Try.func34, Try.ntmps34
  go_wp2_with fail
  (with_reducible refine HL.out.mono ?_); rintro e w2 ⟨rfl, rfl⟩
  go_wp2
  go_quiet (fail)
  go_wp2
  go_ret3
  exact ⟨rfl, _, rfl⟩
theorem wdrop_miss (h : WS w p mb v xs D) (k : ByteArray) (hs : k.size ≤ 1000) (hy : ∀ y ∈ xs, y.2.1 ≠ k) : Calls Try.prog 29 #[.pointer (some ⟨p, 0, none⟩), .string k] w fun e w' => e = .returned (.bool false) ∧ w = w' := by
  have c1 := h.r.c1
  have HM := Aside0.mk h.m
  have HY := Lib.hid hy
  have hs := Lib.hid (show k.size ≤ maxLen by unfold maxLen; omega)
  clear h hy
  go_enter Try.func29, Try.ntmps29
  go_wp2_with (first | (at_lookup; refine wp_look_miss _ rfl _ _ rfl mb xs D rfl HM.out _ rfl hs.out HY.out ?_))
  go_wp2
  go_ret
  exact ⟨rfl, rfl⟩
theorem wdrop_nil (k : ByteArray) (w : World) : Calls Try.prog 29 #[.pointer none, .string k] w fun e w' => e = .returned (.bool false) ∧ w = w' := by
  go_enter Try.func29, Try.ntmps29
  go_wp2
  go_ret
  exact ⟨rfl, rfl⟩
/-- Behind a removal from the row the map is as it was. -/
theorem left_map {w w2 : World} {i : Nat} (h : WS w p mb v xs D) (hl : Left w w2 p i (.map (some mb)) v xs) : ∃ v' ys, WR w2 p (.map (some mb)) v' ys ∧ (el z0 xs i :: ys).Perm xs ∧ Ok z0 lessI ys.length ys ∧ v'.ownBlock = v.ownBlock ∧ Frm (fun b => b = p ∨ FW v xs b) w w2 ∧ MapOf w2 mb xs D := by
  obtain ⟨v', ys, h1, h2, h3, h4, h5⟩ := hl
  obtain ⟨es, c, hb⟩ := h.m.blk
  exact ⟨v', ys, h1, h2, h3, h4, h5, h.m.frm (h5.block mb (blk_lt hb) (map_far h.r h.m.blk))⟩
theorem wdrop_hit (h : WS w p mb v xs D) (y : It) (hy : y ∈ xs) : Calls Try.prog 29 #[.pointer (some ⟨p, 0, none⟩), .string y.2.1] w fun e w' => e = .returned (.bool true) ∧ ∃ v' ys D', WS w' p mb v' ys D' ∧ (y :: ys).Perm xs ∧ v'.ownBlock = v.ownBlock ∧ Frm (FO p mb v xs) w w' := by
  obtain ⟨i, hi, he⟩ := List.mem_iff_getElem.1 hy
  have h2 := el_at (z := z0) xs i hi
  rw [List.getElem?_eq_getElem hi, he] at h2
  injection h2 with h2
  have a1 := h.r.k2 i hi
  rw [← h2] at a1
  have c1 := h.r.c1
  have H := Aside0.mk h
  have HM := Aside0.mk h.m
  have HY := Lib.hid hy
  have HI := Lib.hid hi
  have HE := Lib.hid h2
  have hs := Lib.hid (show y.2.1.size ≤ maxLen by have := h.ks y hy; unfold maxLen; omega)
  obtain ⟨m, hm⟩ : ∃ m, xs.length = m + 1 := ⟨xs.length - 1, by omega⟩
  have HMm := Lib.hid hm
  clear h h2 he hi hy hm
  go_enter Try.func29, Try.ntmps29
  go_upto_region 5 with (first | (at_lookup; refine wp_look_hit _ rfl _ _ rfl mb xs D rfl HM.out _ rfl hs.out y HY.out rfl ?_))
  go_region_with (first | (go_at_call 73; refine (hremove_any H.out.drew.r H.out.ok HMm.out HI.out).mono ?_; rintro e w2 ⟨⟨r, rfl⟩, hl⟩; obtain ⟨v', ys, h1, h2, h3, h4, h5, h6⟩ := left_map H.out.drew hl; have HR2 := Aside0.mk h1; have HP2 := Lib.hid h2; have HO2 := Lib.hid h3; have HV2 := Lib.hid h4; have HF2 := Lib.hid h5; have HM2 := Aside0.mk h6; have c2 := h1.c1; clear hl h1 h2 h3 h4 h5 h6))
  go_wp2_with (first | (at_delete; refine wp_delete _ rfl _ _ rfl mb xs ys D rfl HM2.out y rfl hs.out (HE.out ▸ HP2.out) H.out.kn ?_; intro w3 D3 hM3 hG3; have HM3 := Aside0.mk hM3; have HG3 := Aside0.mk hG3; clear hM3 hG3))
  go_ret
  have hp : (y :: ys).Perm xs := HE.out ▸ HP2.out
  have hg : Frm (fun j => j = mb) w2 w3 := ⟨HG3.out.os, HG3.out.tape, HG3.out.output, HG3.out.size, fun j hj hn => HG3.out.block j hj (fun e => hn (by injection e))⟩
  refine ⟨rfl, v', ys, D3, ⟨HR2.out.frm hg (fun b hb e => ?_), HM3.out, HO2.out, ?_, ?_⟩, hp, HV2.out, ?_⟩
  · subst e; exact map_far HR2.out HM2.out.blk hb
  · have := (hp.map (·.2.1)).nodup_iff.2 H.out.kn
    rw [List.map_cons, List.nodup_cons] at this
    exact this.2
  · exact fun x hx => H.out.ks x (hp.mem_iff.1 (by simp [hx]))
  · have h1 : Frm (FO p mb v xs) w w2 := ((Frm.refl (FO p mb v xs) w).drew).trans (HF2.out.mono (fun b _ hb => hb.imp id .inr))
    exact h1.then hg (fun b _ hb => .inr (.inl hb))
end
end Go.Proofs.Ytjgoddieamphpaa.Wh
