/- A cache: part of the proof. -/
import Derived.Test.YtjgoddieamphpaaODG
namespace Go.Proofs.Ytjgoddieamphpaa.Ca
open Go.RowKit Go.Sort Go.Proofs.YtjgoddieamphpaaW.PrintWords Go.Proofs.YtjgoddieamphpaaW.PrintLast Probe Go.Proofs.Ytjgoddieamphpaa.Obj Go.Proofs.Ytjgoddieamphpaa.PProbeActs
set_option maxRecDepth 100000
set_option linter.unusedVariables false
/-- A row of keys, and what is made of it. -/
structure AK (w0 w : World) (vk : Value) (ks : List ByteArray) (vo : Value) (out : List S126) : Prop where
  r : Kd.R Kd.string 9 w w0.heap.size (fun _ => True) vk ks
  o : Kd.R k126 126 w w0.heap.size (fun _ => True) vo out
  f : Below w0.heap.size w0 w
section
variable {w0 w w1 : World} {vk vo v' : Value} {ks : List ByteArray} {out out' : List S126}
theorem AK.app (h : AK w0 w vk ks vo out) (g : w.grownBy w1 vo.ownBlock) (r' : Kd.R k126 126 w1 w0.heap.size (fun _ => True) v' out') (hb1 : Below w0.heap.size w0 w1) : AK w0 w1 vk ks v' out' := by
  have fr : Frm (fun j => some j = vo.ownBlock) w w1 := ⟨g.os, g.tape, g.output, g.size, fun j hj hn => g.block j hj hn⟩
  refine ⟨rowT h.r fr ?_, r', hb1⟩
  intro b cs t hb hc
  obtain ⟨_, _, _, q, hq, cells, hc2⟩ := (Kd.R_bound h.o).1 b hb.symm
  have : q = 126 := by simpa [k126, Kd.iso, Kd.pair, Kd.string, Kd.int, Kd.scalar] using hq
  subst this
  rw [hc] at hc2
  injection hc2 with hc2
  injection hc2 with _ h2 _
  subst h2
  decide
theorem AK.drewN (h : AK w0 w vk ks vo out) (n : Nat) : AK w0 (w.drewN n) vk ks vo out := ⟨Kd.R_move h.r (fun _ _ => rfl), Kd.R_move h.o (fun _ _ => rfl), pw_below_drewN h.f n⟩
end
/-- What is told of the first i keys. -/
def outC (L : List S98) (now : Int) (i : Nat) : List S126 := (((keysL L).take i).filter fun k => liveC L k now).map fun k => ⟨k, peekC L k now⟩
theorem outC_succ (L : List S98) (now : Int) (i : Nat) (hi : i < (keysL L).length) : outC L now (i + 1) = outC L now i ++ if liveC L (keysL L)[i] now = true then [⟨(keysL L)[i], peekC L (keysL L)[i] now⟩] else [] := by
  unfold outC
  rw [List.take_add_one, List.getElem?_eq_getElem hi, List.filter_append, List.map_append]
  congr 1
  show List.map _ (List.filter _ [(keysL L)[i]]) = _
  rw [List.filter_cons]
  split <;> rfl
theorem outC_len (L : List S98) (now : Int) (i : Nat) : (outC L now i).length ≤ i := by
  unfold outC
  rw [List.length_map]
  exact Nat.le_trans (List.length_filter_le _ _) (List.length_take_le _ _)
theorem outC_all (L : List S98) (now : Int) : outC L now (keysL L).length = allL L now := by unfold outC allL; rw [List.take_length]
theorem CC.keys {w0 w : World} {cb pt b pw most : Nat} {Sw : Nat → Prop} {L : List S98} (h : CC w0 w cb pt b pw Sw most L) : Calls Try.prog 80 #[.pointer (some ⟨pt, 0, none⟩)] w fun e w' => ∃ (A : Option Addr) (c : Nat), e = .returned (.slice A (keysL L).length c) ∧ AK w w' (.slice A (keysL L).length c) (keysL L) (.slice none 0 0) [] := by
  refine (itkeys h.t (by have := tbig h.t; omega)).mono ?_
  rintro e w' ⟨A, c, a, hr, hf⟩
  rw [keysL_len]
  exact ⟨A, c, a, hr, Kd.R_nil _ _ _ _ _, hf.to_below⟩
theorem CC.all {w0 w : World} {cb pt b pw most : Nat} {Sw : Nat → Prop} {L : List S98} (h : CC w0 w cb pt b pw Sw most L) (now : Int) : Calls Try.prog 59 #[.pointer (some ⟨cb, 0, none⟩), .int .i64 now] w fun e w' => ∃ (A : Option Addr) (c : Nat), e = .returned (.slice A (allL L now).length c) ∧ Kd.R k126 126 w' w.heap.size (fun _ => True) (.slice A (allL L now).length c) (allL L now) ∧ Frm (fun _ => False) w w' := by
  have c1 := h.c1
  have HSM := Lib.hid (small h.k)
  have hll : (keysL L).length ≤ 10000 := by
    have h6 := itl_len h.t
    have h7 := tbig h.t
    rw [keysL_len]; omega
  have H := Aside0.mk h
  clear h
  go_enter Try.func59, Try.ntmps59
  go_wp2_with fail
  (with_reducible refine H.out.keys.mono ?_); rintro e w2 ⟨A, c, rfl, hk⟩
  have HK := Aside0.mk hk
  clear hk c1
  go_wp2
  go_loopw [5, 16] (fun v5 v16 wr => ∃ (i : Nat) (A2 : Option Addr) (c2 : Nat), v16 = .int .i64 (i : Nat) ∧ v5 = .slice A2 (outC L now i).length c2 ∧ i ≤ (keysL L).length ∧ Aside0 (AK w wr (.slice A (keysL L).length c) (keysL L) (.slice A2 (outC L now i).length c2) (outC L now i))) (fun _ v16 _ => (keysL L).length - (intOf v16).toNat)
  case atStart => exact ⟨0, none, 0, rfl, rfl, Nat.zero_le _, ⟨HK.out⟩⟩
  case round =>
    clear HK
    obtain ⟨i, A2, c2, rfl, rfl, hi, HK⟩ := hrel
    have HC := Aside0.mk (H.out.movedN (Frm.of_below (F := fun _ => False) HK.out.f))
    have c1 := HC.out.c1
    have hol := outC_len L now i
    by_cases hlt : i < (keysL L).length
    · obtain ⟨ad, rfl, q0⟩ := strsC HK.out.r i hlt
      have hks : ((keysL L)[i]).size ≤ 1000 := by
        obtain ⟨c, hc, e⟩ := List.mem_map.1 ((keysL_perm L).mem_iff.1 (List.getElem_mem hlt))
        rw [← e]
        exact HSM.out _ (List.mem_map.2 ⟨c, hc, rfl⟩)
      have hos := outC_succ L now i hlt
      have HKS := Lib.hid hks
      have HOS := Lib.hid hos
      generalize (keysL L)[i] = kx at *
      clear hks hos
      have HLV := Aside0.mk (HC.out.live kx HKS.out now)
      have HPK := Aside0.mk (HC.out.peek kx HKS.out now)
      cases hb : liveC L kx now with
      | false =>
        rw [hb] at HLV HOS
        have HOS := Lib.hid (show outC L now (i + 1) = outC L now i by rw [HOS.out]; simp)
        go_wp2_with fail
        (with_reducible refine HLV.out.mono ?_); rintro e w3 ⟨rfl, rfl⟩
        go_wp2
        exact ⟨⟨i + 1, A2, c2, by go_num, by rw [HOS.out], by omega, by rw [HOS.out]; exact HK⟩, by simp [intOf]; omega⟩
      | true =>
        rw [hb] at HLV HOS
        obtain ⟨pv, hpv⟩ : ∃ pv, pv = peekC L kx now := ⟨_, rfl⟩
        rw [← hpv] at HPK HOS
        have HOS := Lib.hid (show outC L now (i + 1) = outC L now i ++ [⟨kx, pv⟩] by rw [HOS.out, if_pos rfl])
        clear hpv
        go_wp2_with fail
        (with_reducible refine HLV.out.mono ?_); rintro e w3 ⟨rfl, rfl⟩
        go_wp2_with fail
        (with_reducible refine HPK.out.mono ?_); rintro e w3 ⟨rfl, rfl⟩
        go_wp2_with (first | (at_builtin; refine Kd.R_append k126 _ rfl (.tmp 24) (.tmp 31) 87 126 (.agg #[(.string ⟨#[]⟩), (.int .i64 0)]) 24 rfl Try.underlying87 info126 rfl (by decide) (by omega) (.slice A2 (outC L now i).length c2) (outC L now i) ⟨kx, pv⟩ [.string kx, .int .i64 pv] (fun _ => True) (fun _ => False) rfl rfl (k126_mkM _ _ _ _) (fun _ h => h.elim) (fun _ _ => trivial) HK.out.o HK.out.f HK.out.f.size (by omega) ?_; intro v4 w4 hv4 hb4 hg4 hx4; have HK3 := Aside0.mk (HK.out.app hg4 hv4 hb4); obtain ⟨A4, c4, e4⟩ := Kd.R_slice hv4; subst e4; clear hv4 hb4 hg4 hx4))
        exact ⟨⟨i + 1, A4, c4, by go_num, by rw [HOS.out, List.length_append]; rfl, by omega, by rw [HOS.out]; exact HK3⟩, by simp [intOf]; omega⟩
    · obtain rfl : i = (keysL L).length := by omega
      have z1 : decide (((keysL L).length : Int) < ((keysL L).length : Int)) = false := decide_eq_false (by omega)
      have z2 : decide ((keysL L).length < (keysL L).length) = false := decide_eq_false (by omega)
      have HE := Lib.hid (outC_all L now)
      rw [HE.out] at HK ⊢
      go_wp2
      go_ret
      exact ⟨A2, c2, rfl, HK.out.o, Frm.of_below HK.out.f⟩
end Go.Proofs.Ytjgoddieamphpaa.Ca
