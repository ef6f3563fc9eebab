/- A cache: part of the proof. -/
import Derived.Test.YtjgoddieamphpaaODH
import Derived.Deep.RegionHeld3
import Derived.Deep.DrawnRows
namespace Go.Proofs.Ytjgoddieamphpaa.Ca
open Go.RowKit Go.Sort Go.Proofs.YtjgoddieamphpaaW.PrintWords Go.Proofs.YtjgoddieamphpaaW.PrintLast Probe Go.Proofs.Ytjgoddieamphpaa.Obj Go.Proofs.Ytjgoddieamphpaa.PProbeActs
set_option maxRecDepth 100000
set_option linter.unusedVariables false
attribute [local go_sem ↓] Go.wp_at_zero Go.wp_at_succ
theorem names_any {w : World} {base : Nat} {X : List S98} {A : Option Addr} {c : Nat} (h : Kd.R k98 98 w base (fun _ => True) (.slice A X.length c) X) (hl : X.length ≤ 1000) :
    Calls Try.prog 81 #[.slice A X.length c] w fun e w' => ∃ (A1 : Option Addr) (c1 : Nat), e = .returned (.slice A1 (keysL X).length c1) ∧ Kd.R Kd.string 9 w' w.heap.size (fun _ => True) (.slice A1 (keysL X).length c1) (keysL X) ∧ Below w.heap.size w w' := by
  obtain ⟨k, hk⟩ := names_f X hl
  refine (turncockref20_Names.calls k (fun _ => True) A c X (selN X.length X) w (Kd.R_V h) hk).mono ?_
  rintro e w' ⟨v0, rfl, hr, hb⟩
  obtain ⟨A1, c1, rfl⟩ := Kd.R_slice hr
  exact ⟨A1, c1, rfl, Kd.R_mono hr (fun _ _ => trivial), hb⟩
/-- A row of counters stays where no block of its type turns. -/
theorem rowC {w w1 : World} {base : Nat} {v : Value} {l : List S98} {F : Nat → Prop} (h : Kd.R k98 98 w base (fun _ => True) v l) (k : Frm F w w1) (hF : ∀ b cs t, F b → w.heap[b]? = some (.cells cs t (0, 0)) → t ≠ 98) : Kd.R k98 98 w1 base (fun _ => True) v l := by
  refine Kd.R_mono (Kd.R_step (Kd.R_bound h) ?_) (fun _ _ => trivial)
  rintro b ⟨_, _, _, q, hq, cells, hc⟩ hlt
  refine k.block b hlt fun hf => ?_
  have : q = 98 := by simpa [k98, Kd.iso, Kd.pair, Kd.string, Kd.int, Kd.scalar] using hq
  subst this
  exact hF b _ _ hf hc rfl
structure AL (w0 w : World) (vk : Value) (ks : List ByteArray) (vl : Value) (l : List S98) (vo : Value) (out : List S126) : Prop where
  a : AK w0 w vk ks vo out
  l : Kd.R k98 98 w w0.heap.size (fun _ => True) vl l
section
variable {w0 w w1 : World} {vk vo v' vl : Value} {ks : List ByteArray} {out out' : List S126} {l : List S98}
theorem AL.app (h : AL w0 w vk ks vl l vo out) (g : w.grownBy w1 vo.ownBlock) (r' : Kd.R k126 126 w1 w0.heap.size (fun _ => True) v' out') (hb1 : Below w0.heap.size w0 w1) : AL w0 w1 vk ks vl l v' out' := by
  have fr : Frm (fun j => some j = vo.ownBlock) w w1 := ⟨g.os, g.tape, g.output, g.size, fun j hj hn => g.block j hj hn⟩
  refine ⟨h.a.app g r' hb1, rowC h.l fr ?_⟩
  intro b cs t hb hc
  obtain ⟨_, _, _, q, hq, cells, hc2⟩ := (Kd.R_bound h.a.o).1 b hb.symm
  have : q = 126 := by simpa [k126, Kd.iso, Kd.pair, Kd.string, Kd.int, Kd.scalar] using hq
  subst this
  rw [hc] at hc2
  injection hc2 with hc2
  injection hc2 with _ h2 _
  subst h2
  decide
theorem AL.drewN (h : AL w0 w vk ks vl l vo out) (n : Nat) : AL w0 (w.drewN n) vk ks vl l vo out := ⟨h.a.drewN n, Kd.R_move h.l (fun _ _ => rfl)⟩
theorem AL.drew (h : AL w0 w vk ks vl l vo out) : AL w0 w.drew vk ks vl l vo out := ⟨⟨Kd.R_move h.a.r (fun _ _ => rfl), Kd.R_move h.a.o (fun _ _ => rfl), h.a.f.drew⟩, Kd.R_move h.l (fun _ _ => rfl)⟩
end
/-- What is told of the first i names. -/
def outD (l : List S98) (i : Nat) : List S126 := ((keysL l).take i).map fun k => ⟨k, getV l k⟩
theorem outD_succ (l : List S98) (i : Nat) (hi : i < (keysL l).length) : outD l (i + 1) = outD l i ++ [⟨(keysL l)[i], getV l (keysL l)[i]⟩] := by
  unfold outD
  rw [List.take_add_one, List.getElem?_eq_getElem hi, List.map_append]
  rfl
theorem outD_len (l : List S98) (i : Nat) : (outD l i).length ≤ i := by
  unfold outD
  rw [List.length_map]
  exact List.length_take_le _ _
theorem outD_all {L : List S98} (hn : (L.map (·.f0)).Nodup) (now : Int) : outD (liveL L now) (keysL (liveL L now)).length = allL L now := by
  rw [allL_doc hn]; unfold outD; rw [List.take_length]
set_option maxHeartbeats 2000000 in
theorem rkall {w : World} {m most : Nat} {L : List S98} {v : Value} (h : RK w m most L v) (hn : (L.map (·.f0)).Nodup) (hl1 : L.length ≤ 1000) (now : Int) : Calls Try.prog 60 #[.pointer (some ⟨m, 0, none⟩), .int .i64 now] w fun e w' => ∃ (A : Option Addr) (c : Nat), e = .returned (.slice A (allL L now).length c) ∧ Kd.R k126 126 w' w.heap.size (fun _ => True) (.slice A (allL L now).length c) (allL L now) ∧ Frm (fun _ => False) w w' := by
  obtain ⟨A, c, rfl, hl, hr⟩ := Kd.R_reads h.row
  have hc1 := h.c1
  have hN := Lib.hid (show L.length ≤ 1000000 by omega)
  have HR := Aside0.mk hr
  have HL := Lib.hid hl
  obtain ⟨l, hlive⟩ : ∃ l, l = liveL L now := ⟨_, rfl⟩
  have HLL := Lib.hid hlive
  have HO := Aside0.mk (only_any L now hN.out A c w hr hl)
  have HE := Lib.hid (outD_all hn now)
  have hll : l.length ≤ 1000 := by rw [hlive]; exact Nat.le_trans (List.length_filter_le _ _) hl1
  rw [← hlive] at HO HE
  have HLN := Lib.hid hll
  have hkl := keysL_len l
  have HKM := Lib.hid (fun k hk => (keysL_perm l).mem_iff.1 hk : ∀ k ∈ keysL l, k ∈ l.map (·.f0))
  clear h hr hl hn hlive
  go_enter Try.func60, Try.ntmps60
  go_wp2_with fail
  (with_reducible refine HO.out.mono ?_); rintro e w2 ⟨v', rfl, hv, hb⟩
  obtain ⟨A', c', rfl⟩ := Kd.R_slice hv
  have HV := Aside0.mk hv
  have HB := Aside0.mk hb
  clear hv hb hc1
  go_wp2_with fail
  (with_reducible refine (names_any HV.out HLN.out).mono ?_); rintro e w3 ⟨A1, c1, rfl, hk, hb3⟩
  have HK : Aside0 (AL w w3 (.slice A1 (keysL l).length c1) (keysL l) (.slice A' l.length c') l (.slice none 0 0) []) := ⟨⟨⟨Kd.R_lower hk (HB.out.size), Kd.R_nil _ _ _ _ _, HB.out.trans (hb3.mono HB.out.size)⟩, rowC HV.out (Frm.of_below (F := fun _ => False) hb3) (fun _ _ _ hf => hf.elim)⟩⟩
  clear hk hb3
  go_wp2
  go_loopw [7, 8] (fun v7 v8 wr => ∃ (i : Nat) (A2 : Option Addr) (c2 : Nat), v8 = .int .i64 (i : Nat) ∧ v7 = .slice A2 (outD l i).length c2 ∧ i ≤ (keysL l).length ∧ Aside0 (AL w wr (.slice A1 (keysL l).length c1) (keysL l) (.slice A' l.length c') l (.slice A2 (outD l i).length c2) (outD l i))) (fun _ v8 _ => (keysL l).length - (intOf v8).toNat)
  case atStart => exact ⟨0, none, 0, rfl, rfl, Nat.zero_le _, HK⟩
  case round =>
    clear HK HV HB HO HR
    obtain ⟨i, A2, c2, rfl, rfl, hi, HK⟩ := hrel
    have hol := outD_len l i
    by_cases hlt : i < (keysL l).length
    · obtain ⟨ad, rfl, q0⟩ := strsC HK.out.a.r i hlt
      have hos := outD_succ l i hlt
      have hmem := HKM.out _ (List.getElem_mem hlt)
      have HOS := Lib.hid hos
      have hce : Aside0 (∀ w' vo' out', AL w w' (.slice (some ad) (keysL l).length c1) (keysL l) (.slice A' l.length c') l vo' out' → w'.cell? (ad.add i) = some (.string (keysL l)[i]) ∧ Kd.C k98 w' A' l.length l) := ⟨fun w' vo' out' h' => by
        obtain ⟨ad', e', q'⟩ := strsC h'.a.r i hlt
        obtain rfl := Option.some.inj e'
        exact ⟨q', (Kd.R_reads' h'.l).2.2⟩⟩
      generalize (keysL l)[i] = kx at *
      obtain ⟨cx, hcx, hcf⟩ := List.mem_map.1 hmem
      obtain ⟨j, hj⟩ := idx_of ⟨cx, hcx, hcf⟩
      obtain ⟨hjl, hjk⟩ := idx_some hj
      have e1 := Lib.hid (show fnd l kx = j by unfold fnd; rw [hj])
      have hgv : getV l kx = (l.getD j z98).f1 := by unfold getV; rw [hj]
      obtain ⟨al, hal, p0, p1, p2⟩ := at_T98 (Kd.R_reads' HK.out.l).2.2 (j : Int) (by omega) (by omega)
      subst hal
      have er : rd_T98 l (j : Int) = l.getD j z98 := by unfold rd_T98; rw [Int.toNat_natCast]
      rw [er, Int.toNat_natCast, ← hgv] at p1
      obtain ⟨pv, hpv⟩ : ∃ pv, pv = getV l kx := ⟨_, rfl⟩
      rw [← hpv] at p1
      have HOS := Lib.hid (show outD l (i + 1) = outD l i ++ [⟨kx, pv⟩] by rw [HOS.out, hpv])
      have hce : Aside0 (∀ w' vo' out', AL w w' (.slice (some ad) (keysL l).length c1) (keysL l) (.slice (some al) l.length c') l vo' out' → w'.cell? (ad.add i) = some (.string kx) ∧ w'.cell? ⟨(al.add (j * 3)).block, (al.add (j * 3)).off + 1, none⟩ = some (.int .i64 pv)) := ⟨fun w' vo' out' h' => by
        obtain ⟨q', hC⟩ := hce.out w' vo' out' h'
        obtain ⟨al', e', _, p', _⟩ := at_T98 hC (j : Int) (by omega) (by omega)
        obtain rfl := Option.some.inj e'
        rw [er, Int.toNat_natCast, ← hgv, ← hpv] at p'
        exact ⟨q', p'⟩⟩
      have hlr := Kd.R_reads' HK.out.l
      have HLR := Lib.hid hlr.2.1
      have hjl0 : (0 : Int) ≤ (j : Int) := by omega
      have hjl1 : (j : Int) < (l.length : Int) := by omega
      have hfind : Aside0 (∀ w', AL w w' (.slice (some ad) (keysL l).length c1) (keysL l) (.slice (some al) l.length c') l (.slice A2 (outD l i).length c2) (outD l i) → Calls Try.prog 65 #[.slice (some al) l.length c', .string kx] w' fun e w'' => e = .returned (.int .i64 j) ∧ ∃ n, w'' = w'.drewN n) := ⟨fun w' hw' => by
        have := find_any l kx (by have := HLN.out; omega) (some al) c' w' (Kd.R_reads' hw'.l).2.2 HLR.out
        rw [e1.out] at this
        exact this⟩
      clear hos hmem hcx hcf hj hgv p0 p2 er hpv hlr
      go_upto_region 7 with (fail)
      go_region_held3 (fun w' => w'.cell? (ad.add i) = some (.string kx) ∧ w'.cell? ⟨(al.add (j * 3)).block, (al.add (j * 3)).off + 1, none⟩ = some (.int .i64 pv)) (go_keep) (first | (go_at_call 65; refine (hfind.out _ (by first | exact HK.out | exact HK.out.drew | exact HK.out.drewN _)).mono ?_; rintro e w4 ⟨rfl, n4, rfl⟩) | (refine Kd.R_append_step k126 _ (by rfl) (.tmp 23) (.tmp 39) 87 126 (.agg #[(.string ⟨#[]⟩), (.int .i64 0)]) 24 (by rfl) Try.underlying87 info126 (by rfl) (by decide) (by omega) (.slice A2 (outD l i).length c2) (outD l i) ⟨kx, pv⟩ [.string kx, .int .i64 pv] (fun _ => True) (fun _ => False) (by rfl) (by rfl) (k126_mkM _ _ _ _) (fun _ h => h.elim) (fun _ _ => trivial) (HK.out.drewN _).a.o (HK.out.drewN _).a.f (HK.out.drewN _).a.f.size (by omega) ?_; intro v4 w4 hv4 hb4 hg4 hx4; have HK3 := Aside0.mk ((HK.out.drewN _).app hg4 hv4 hb4); obtain ⟨hx5, hx6⟩ := hce.out _ _ _ HK3.out; obtain ⟨A4, c4, e4⟩ := Kd.R_slice hv4; subst e4; clear hv4 hb4 hg4 hx4))
      go_wp2
      exact ⟨⟨i + 1, A4, c4, by go_num, by rw [HOS.out, List.length_append]; rfl, by omega, by rw [HOS.out]; exact HK3⟩, by simp [intOf]; omega⟩
    · obtain rfl : i = (keysL l).length := by omega
      have z1 : decide (((keysL l).length : Int) < ((keysL l).length : Int)) = false := decide_eq_false (by omega)
      have z2 : decide ((keysL l).length < (keysL l).length) = false := decide_eq_false (by omega)
      rw [HE.out] at HK ⊢
      go_wp2
      go_ret
      exact ⟨A2, c2, rfl, HK.out.a.o, Frm.of_below HK.out.a.f⟩
end Go.Proofs.Ytjgoddieamphpaa.Ca
