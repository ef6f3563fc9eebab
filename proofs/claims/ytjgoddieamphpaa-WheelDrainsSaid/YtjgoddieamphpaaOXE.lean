/- A part of the proof. -/
import Derived.Test.YtjgoddieamphpaaOXD
import Derived.Deep.LoopGhost
namespace Go.Proofs.Ytjgoddieamphpaa.Wh
open Go.RowKit Go.Sort Go.Proofs.YtjgoddieamphpaaW.PrintWords Go.Proofs.YtjgoddieamphpaaW.PrintLast Heap Go.Proofs.Ytjgoddieamphpaa.Obj Go.Proofs.Ytjgoddieamphpaa.PWheelActs
set_option maxRecDepth 100000
set_option linter.unusedVariables false
theorem info_str : (Try.prog.info? 9).map (fun i => (i.zero, i.size, i.bytes)) = some (some (.string ⟨#[]⟩), 1, 16) := by kernel_rfl
/-- A row of texts of the call's own stays while elder blocks are written. -/
theorem rowS_frm {w w1 : World} {base : Nat} {v : Value} {o : List ByteArray} {F : Nat → Prop} (h : Kd.R Kd.string 9 w base (fun _ => True) v o) (k : Frm F w w1) (hF : ∀ b, F b → b < base) : Kd.R Kd.string 9 w1 base (fun _ => True) v o := by
  refine Kd.R_mono (Kd.R_step (Kd.R_bound h) ?_) (fun _ _ => trivial)
  rintro b ⟨_, hb, _⟩ hlt
  exact k.block b hlt fun hf => by have := hF b hf; omega
/-- A wheel while what is due is taken out. -/
structure DU (w0 w : World) (p mb : Nat) (v0 : Value) (xs : List It) (v : Value) (ys : List It) (D : DataW Unit) (vo : Value) (o : List ByteArray) (now : Int) (m : Nat) : Prop where
  s : WS w p mb v ys D
  own : ∀ b, FO p mb v ys b → FO p mb v0 xs b
  row : Kd.R Kd.string 9 w w0.heap.size (fun _ => True) vo o
  f : Frm (FO p mb v0 xs) w0 w
  le : o.length ≤ m
  le2 : o.length + ys.length ≤ xs.length
  go : ∀ q K, Dues now (m - o.length) (kv ys) q K → Dues now m (kv xs) (o ++ q) K
section
variable {w0 w w1 : World} {p mb : Nat} {v0 v : Value} {xs ys : List It} {D : DataW Unit} {vo : Value} {o : List ByteArray} {now : Int} {m : Nat}
theorem DU.drewN (h : DU w0 w p mb v0 xs v ys D vo o now m) (n : Nat) : DU w0 (w.drewN n) p mb v0 xs v ys D vo o now m := ⟨h.s.drewN n, h.own, Kd.R_move h.row (fun _ _ => rfl), h.f.drewN n, h.le, h.le2, h.go⟩
theorem first_is (h : WS w p mb v ys D) (h0 : 0 < ys.length) : IsFirst (kv ys) (el z0 ys 0).2 := by
  refine ⟨List.mem_map.2 ⟨_, el_mem ys 0 h0, rfl⟩, fun y hy => ?_⟩
  obtain ⟨x, hx, rfl⟩ := List.mem_map.1 hy
  obtain ⟨i, hi, rfl⟩ := List.mem_iff_getElem.1 hx
  have h1 := h.ok.root lessI_wo i hi
  have h2 := el_at (z := z0) ys i hi
  rw [List.getElem?_eq_getElem hi] at h2
  injection h2 with h2
  rw [h2]
  exact h1
/-- One is taken out. -/
theorem DU.next (h : DU w0 w p mb v0 xs v ys D vo o now m) (hw : ∀ b, FO p mb v0 xs b → b < w0.heap.size) (hm : o.length < m) (h0 : 0 < ys.length) (hd : (el z0 ys 0).2.2 ≤ now) {v' : Value} {zs : List It} {D' : DataW Unit} {w1 : World} (s : WS w1 p mb v' zs D') (hp : (kv zs).Perm (dropK (kv ys) (el z0 ys 0).2.1)) (ho : ∀ b, FO p mb v' zs b → FO p mb v ys b) (hf : Frm (FO p mb v ys) w w1) (hl : zs.length < ys.length) :
    WS w1 p mb v' zs D' ∧ (∀ b, FO p mb v' zs b → FO p mb v0 xs b) ∧ Kd.R Kd.string 9 w1 w0.heap.size (fun _ => True) vo o ∧ Frm (FO p mb v0 xs) w0 w1 ∧ o.length + 1 ≤ m ∧ o.length + 1 + zs.length ≤ xs.length ∧ ∀ q K, Dues now (m - (o.length + 1)) (kv zs) q K → Dues now m (kv xs) ((o ++ [(el z0 ys 0).2.1]) ++ q) K := by
  refine ⟨s, fun b hb => h.own b (ho b hb), rowS_frm h.row hf (fun b hb => hw b (h.own b hb)), h.f.trans (hf.mono fun b _ hb => h.own b hb), by omega, by have := h.le2; omega, fun q K hq => ?_⟩
  have h2 : Dues now (m - o.length) (kv ys) ((el z0 ys 0).2.1 :: q) K := by
    rw [show m - o.length = (m - (o.length + 1)) + 1 by omega]
    exact .one _ _ _ _ _ _ (first_is h.s h0) hd hp hq
  have h3 := h.go _ _ h2
  rw [List.append_assoc]
  exact h3
theorem DU.app {w3 w4 : World} {zs : List It} {D3 : DataW Unit} {v3 vo4 : Value} {k : ByteArray} (hN : WS w3 p mb v3 zs D3 ∧ (∀ b, FO p mb v3 zs b → FO p mb v0 xs b) ∧ Kd.R Kd.string 9 w3 w0.heap.size (fun _ => True) vo o ∧ Frm (FO p mb v0 xs) w0 w3 ∧ o.length + 1 ≤ m ∧ o.length + 1 + zs.length ≤ xs.length ∧ ∀ q K, Dues now (m - (o.length + 1)) (kv zs) q K → Dues now m (kv xs) ((o ++ [k]) ++ q) K)
    (hw : ∀ b, FO p mb v0 xs b → b < w0.heap.size) (hr4 : Kd.R Kd.string 9 w4 w0.heap.size (fun _ => True) vo4 (o ++ [k])) (hg : w3.grownBy w4 vo.ownBlock) : DU w0 w4 p mb v0 xs v3 zs D3 vo4 (o ++ [k]) now m := by
  obtain ⟨n1, n2, n3, n4, n5, n6, n7⟩ := hN
  have hf : Frm (fun j => some j = vo.ownBlock) w3 w4 := ⟨hg.os, hg.tape, hg.output, hg.size, fun j hj hn => hg.block j hj hn⟩
  have hb : ∀ j, some j = vo.ownBlock → w0.heap.size ≤ j := fun j hj => ((Kd.R_bound n3).1 j hj.symm).2.1
  refine ⟨n1.frm hf (fun b h1 h2 => by have := hw b (n2 b h1); have := hb b h2; omega), n2, hr4, n4.then hf (fun i hi hk => by have := hb i hk; omega), by simp; omega, by simp; omega, fun q K hq => ?_⟩
  rw [List.length_append] at hq
  exact n7 q K hq
end
set_option maxHeartbeats 2000000 in
theorem wdue_any {w : World} {p mb : Nat} {v : Value} {xs : List It} {D : DataW Unit} (h : WS w p mb v xs D) (now most : Int) : Calls Try.prog 32 #[.pointer (some ⟨p, 0, none⟩), .int .i64 now, .int .i64 most] w fun e w' => ∃ A c o v' ys D', e = .returned (.slice A o.length c) ∧ Kd.R Kd.string 9 w' w.heap.size (fun _ => True) (.slice A o.length c) o ∧ WS w' p mb v' ys D' ∧ (∀ b, FO p mb v' ys b → FO p mb v xs b) ∧ Frm (FO p mb v xs) w w' ∧ Dues now most.toNat (kv xs) o (kv ys) := by
  have hlen := h.r.few
  have HW := Lib.hid (fun b hb => h.own_lt b hb)
  have H := Aside0.mk h
  clear h
  go_enter Try.func32, Try.ntmps32
  go_wp2
  go_loopg [7] xs.length (fun kq v7 wr => ∃ (A : Option Addr) (c : Nat) (o : List ByteArray) (v' : Value) (ys : List It) (D' : DataW Unit), v7 = .slice A o.length c ∧ Aside0 (kq + o.length = xs.length) ∧ Aside0 (DU w wr p mb v xs v' ys D' (.slice A o.length c) o now most.toNat))
  case atStart => exact ⟨none, 0, [], v, xs, D, rfl, ⟨by simp⟩, ⟨H.out, fun b hb => hb, Kd.R_nil _ _ _ _ _, Frm.refl _ _, Nat.zero_le _, by simp, fun q K hq => hq⟩⟩
  case round =>
    clear H
    obtain ⟨A, c, o, v', ys, D', rfl, HK, HU⟩ := hrel
    have hol := HU.out.le2
    by_cases hm : o.length < most.toNat
    · have z1 : decide ((o.length : Int) < most) = true := decide_eq_true (by omega)
      by_cases h0 : ys.length = 0
      · go_wp2_with fail
        (with_reducible refine (wnext_none HU.out.s h0).mono ?_); rintro e w2 ⟨rfl, n, rfl⟩
        go_wp2
        go_ret
        refine ⟨A, c, o, v', ys, D', rfl, (HU.out.drewN _).row, (HU.out.drewN _).s, HU.out.own, (HU.out.drewN _).f, ?_⟩
        have hy : ys = [] := List.eq_nil_of_length_eq_zero h0
        have h1 := HU.out.go [] (kv ys) (by subst hy; rw [show most.toNat - o.length = (most.toNat - o.length - 1) + 1 by omega]; exact .none _)
        rw [List.append_nil] at h1
        exact h1
      · obtain ⟨q, hq⟩ : ∃ q, ys.length = q + 1 := ⟨ys.length - 1, by omega⟩
        have hk10 : (el z0 ys 0).2.1.size ≤ 1000 := HU.out.s.ks _ (el_mem ys 0 (by omega))
        have HK10 := Lib.hid hk10
        have HQ := Lib.hid hq
        clear hk10
        by_cases hd : now < (el z0 ys 0).2.2
        · have z2 : decide (now < (el z0 ys 0).2.2) = true := decide_eq_true hd
          have HD := Lib.hid hd
          clear hd
          go_wp2_with fail
          (with_reducible refine (wnext_some HU.out.s q HQ.out).mono ?_); rintro e w2 ⟨rfl, n, rfl⟩
          go_wp2
          go_ret
          refine ⟨A, c, o, v', ys, D', rfl, (HU.out.drewN _).row, (HU.out.drewN _).s, HU.out.own, (HU.out.drewN _).f, ?_⟩
          have h1 := HU.out.go [] (kv ys) (by rw [show most.toNat - o.length = (most.toNat - o.length - 1) + 1 by omega]; exact .later _ _ _ (first_is HU.out.s (by omega)) HD.out)
          rw [List.append_nil] at h1
          exact h1
        · have z2 : decide (now < (el z0 ys 0).2.2) = false := decide_eq_false hd
          have HD := Lib.hid (show (el z0 ys 0).2.2 ≤ now by omega)
          clear hd
          go_wp2_with fail
          (with_reducible refine (wnext_some HU.out.s q HQ.out).mono ?_); rintro e w2 ⟨rfl, n, rfl⟩
          go_wp2_with fail
          (with_reducible refine (wdrop_any (HU.out.s.drewN n) _ HK10.out).mono ?_); rintro e w3 ⟨rfl, v3, zs, D3, hs3, hp3, hn3, ho3, hf3, hl3⟩
          have hzl : zs.length < ys.length := by
            have h1 := hp3.length_eq
            have h2 : (dropK (kv ys) (el z0 ys 0).2.1).length < (kv ys).length := by
              unfold dropK
              refine List.length_filter_lt_length_iff_exists.2 ⟨(el z0 ys 0).2, List.mem_map.2 ⟨_, el_mem ys 0 (by omega), rfl⟩, by simp⟩
            unfold kv at h1 h2
            simp only [List.length_map] at h1 h2
            omega
          have hnx := (HU.out.drewN n).next HW.out hm (by omega) HD.out hs3 hp3 ho3 hf3 hzl
          have HN := Aside0.mk hnx
          have HR3 := Aside0.mk hnx.2.2.1
          have hol3 := hnx.2.2.2.2.2.1
          have hsz3 := Lib.hid (hnx.2.2.2.1.size)
          clear hs3 hp3 hn3 ho3 hf3 hl3 hzl hnx
          go_wp2_with (first | (at_builtin; refine Kd.R_append Kd.string _ rfl (.tmp 31) (.tmp 33) 22 9 (.string ⟨#[]⟩) 16 rfl Try.underlying22 info_str rfl (by decide) (by omega) (.slice A o.length c) o (el z0 ys 0).2.1 [.string (el z0 ys 0).2.1] (fun _ => True) (fun _ => False) rfl rfl rfl (fun _ h => h.elim) (fun _ _ => trivial) HR3.out (Below.refl _ _) hsz3.out (by omega) ?_; intro v4 w4 hv4 hb4 hg4 hx4; obtain ⟨A4, c4, e4⟩ := Kd.R_slice hv4; subst e4; have HV4 := Aside0.mk hv4; have HG4 := Aside0.mk hg4; clear hv4 hb4 hg4 hx4))
          go_wp2
          go_roundg (gk - 1)
          case measure => have := HK.out; omega
          case rel => exact ⟨A4, c4, o ++ [(el z0 ys 0).2.1], v3, zs, D3, by simp, ⟨by have := HK.out; simp; omega⟩, ⟨DU.app HN.out HW.out (by simpa using HV4.out) HG4.out⟩⟩
    · have z1 : decide ((o.length : Int) < most) = false := decide_eq_false (by omega)
      go_wp2
      go_ret
      refine ⟨A, c, o, v', ys, D', rfl, HU.out.row, HU.out.s, HU.out.own, HU.out.f, ?_⟩
      have h1 := HU.out.go [] (kv ys) (by rw [show most.toNat - o.length = 0 by omega]; exact .full _)
      rw [List.append_nil] at h1
      exact h1
end Go.Proofs.Ytjgoddieamphpaa.Wh
