/- What the law TrieFits uses, thinned: printed by shake2.py. -/
import Derived.Test.YtipbigdpannlcaaTTrieFitsOTK
import Derived.Test.YtipbigdpannlcaaTTrieFitsPTrieFitsx8
namespace Go.Proofs.Ytipbigdpannlcaa.Tr
open Go.RowKit Go.Proofs.Ytipbigdpannlcaa.PTrieFits Go.Proofs.Ytipbigdpannlcaa.Pure Go.Proofs.YtipbigdpannlcaaW.PrintWords Go.Proofs.YtipbigdpannlcaaW.PrintLast Go.Proofs.YtipbigdpannlcaaW.PrintMore
set_option maxRecDepth 100000
set_option linter.unusedVariables false
set_option linter.unusedSimpArgs false
set_option linter.unusedSectionVars false
structure CI (w0 W : World) (g cb z : Nat) (L : List Int) (p : Int) (vD vB : Value) (ds : List DO) (bs : List BR) : Prop where
  tp : TAPE w0 W g L p
  bl : Below w0.heap.size w0 W
  cc : W.heap[cb]? = some (.cells #[vD, vB] 27 (0, 0))
  zz : W.heap[z]? = some (.cells #[.slice none 0 0, .slice none 0 0] 27 (0, 0))
  lc : w0.heap.size ≤ cb
  lz : w0.heap.size ≤ z
  ne : z ≠ cb
  rd : Kd.R kD 53 W w0.heap.size (fun _ => True) vD ds
  rb : Kd.R kB 46 W w0.heap.size (fun _ => True) vB bs
theorem kD_39 : ∀ q, q ∈ (53 : Nat) :: kD.E → q ≠ 39 := by intro q hq; simp [kD, k53, Kd.iso, Kd.pair, Kd.string, Kd.int, Kd.scalar, Kd.slice] at hq; omega
theorem kD_27 : ∀ q, q ∈ (53 : Nat) :: kD.E → q ≠ 27 := by intro q hq; simp [kD, k53, Kd.iso, Kd.pair, Kd.string, Kd.int, Kd.scalar, Kd.slice] at hq; omega
theorem kD_46 : ∀ q, q ∈ (53 : Nat) :: kD.E → q ≠ 46 := by intro q hq; simp [kD, k53, Kd.iso, Kd.pair, Kd.string, Kd.int, Kd.scalar, Kd.slice] at hq; omega
theorem kB_53 : ∀ q, q ∈ (46 : Nat) :: kB.E → q ≠ 53 := by intro q hq; simp [kB, k46, k44, Kd.iso, Kd.pair, Kd.string, Kd.bool, Kd.int, Kd.scalar, Kd.slice] at hq; omega
theorem kI_53 : ∀ q, q ∈ (3 : Nat) :: kI.E → q ≠ 53 := by intro q hq; simp [kI, Kd.int, Kd.scalar] at hq; omega
section
variable {w0 W W' : World} {g cb z : Nat} {L : List Int} {p p' : Int} {vD vB : Value} {ds : List DO} {bs : List BR}
theorem CI.far (h : CI w0 W g cb z L p vD vB ds bs) : cb ≠ g ∧ z ≠ g := by
  obtain ⟨A0, c0, hb, _, _⟩ := h.tp
  constructor
  · intro e; subst e
    have := h.cc
    rw [hb] at this
    injection this with this
    injection this with a b c
    cases b
  · intro e; subst e
    have := h.zz
    rw [hb] at this
    injection this with this
    injection this with a b c
    cases b
theorem CI.step (h : CI w0 W g cb z L p vD vB ds bs) (ht : TAPE w0 W' g L p') (hb : Below w0.heap.size w0 W') (hk : KeepBut W W' g none) : CI w0 W' g cb z L p' vD vB ds bs :=
  ⟨ht, hb, KeepBut.blk hk h.cc h.far.1 (by simp), KeepBut.blk hk h.zz h.far.2 (by simp), h.lc, h.lz, h.ne,
    Kd.R_mono (Kd.R_keep (h.tp.apart h.rd kD_39) hk (fun _ x => x.2)) (fun _ _ => trivial), Kd.R_mono (Kd.R_keep (h.tp.apart h.rb kB_39) hk (fun _ x => x.2)) (fun _ _ => trivial)⟩
theorem CI.below (h : CI w0 W g cb z L p vD vB ds bs) (hb : Below W.heap.size W W') : CI w0 W' g cb z L p vD vB ds bs :=
  h.step (h.tp.below hb) (h.bl.trans (hb.mono h.bl.size)) (KeepBut.of_below hb g none)
theorem CI.drew (h : CI w0 W g cb z L p vD vB ds bs) : CI w0 W.drew g cb z L p vD vB ds bs := h.below (below_drew (Below.refl _ _))
theorem CI.enter (h : CI w0 W g cb z L p vD vB ds bs) : BI w0 W W g cb L p vD vB vB (.slice none 0 0) (fun _ => True) (fun _ => False) bs [] :=
  ⟨h.bl, blk_lt h.cc, fun _ hk => hk.elim, h.tp, h.bl, h.cc, Kd.R_mono h.rb (fun k _ => ⟨.inl trivial, by simp [Value.ownBlock], fun x => x⟩), Kd.R_nil _ _ _ _ _, fun k hk => .inl hk, Frm.refl _ _⟩
theorem CI.leave (h : CI w0 W g cb z L p vD vB ds bs) {vB' vk : Value} {bs' : List BR} {ks : List Int} (k : BI w0 W W' g cb L p' vD vB vB' vk (fun _ => True) (fun _ => False) bs' ks) :
    CI w0 W' g cb z L p' vD vB' ds bs' ∧ Kd.R kI 3 W' w0.heap.size (fun _ => True) vk ks := by
  have hz : ¬ FB g cb vB z := by
    rintro (e | e | e)
    · exact h.far.2 e
    · exact h.ne e
    · exact Kd.R_ne h.rb h.zz (by decide) e.symm
  refine ⟨⟨k.tp, k.bl, k.cc, (k.fr.block z (blk_lt h.zz) hz).trans h.zz, h.lc, h.lz, h.ne, ?_, Kd.R_mono k.rb (fun _ _ => trivial)⟩, Kd.R_mono (Kd.R_lower k.ro h.bl.size) (fun _ _ => trivial)⟩
  have a1 := h.tp.apart h.rd kD_39
  have a2 := Kd.R_types a1 h.cc kD_27
  have a3 := Kd.R_apartR a2 h.rb kD_46
  refine Kd.R_mono (Kd.R_step a3 (fun i hi hlt => k.fr.block i hlt ?_)) (fun _ _ => trivial)
  rintro (e | e | e)
  · exact hi.1.1.2 e
  · exact hi.1.2 e
  · exact hi.2 e.symm
theorem CI.push (h : CI w0 W g cb z L p vD vB ds bs) {vD' : Value} {ds' : List DO} (hg : W.grownBy W' vD.ownBlock) (hb : Below w0.heap.size w0 W')
    (hr : Kd.R kD 53 W' w0.heap.size (fun _ => True) vD' ds') : CI w0 (W'.setCell ⟨cb, 0, none⟩ vD') g cb z L p vD' vB ds' bs := by
  have hng : some g ≠ vD.ownBlock := h.tp.own_ne h.rd (by decide)
  have hnc : some cb ≠ vD.ownBlock := Kd.R_ne h.rd h.cc (by decide)
  have hnz : some z ≠ vD.ownBlock := Kd.R_ne h.rd h.zz (by decide)
  have hcc' : W'.heap[cb]? = some (.cells #[vD, vB] 27 (0, 0)) := by
    rw [hg.block cb (blk_lt h.cc) hnc]; exact h.cc
  have hfar : ∀ k, k ≠ cb → (W'.setCell ⟨cb, 0, none⟩ vD').heap[k]? = W'.heap[k]? := fun k hk => Below.heap_setCell _ _ _ _ hk
  have hsz : (W'.setCell ⟨cb, 0, none⟩ vD').heap.size = W'.heap.size := by simp [World.setCell]
  have hlc := h.lc
  refine ⟨?_, ⟨hb.os, hb.tape, hb.output, by rw [hsz]; exact hb.size, fun k hk => (hfar k (by omega)).trans (hb.block k hk)⟩, blk_set hcc' 0 vD', ?_, h.lc, h.lz, h.ne, Kd.R_set hr hcc' kD_27 0 vD', Kd.R_set (Kd.R_over h.rb h.rd kB_53 hg) hcc' kB_27 0 vD'⟩
  · obtain ⟨A0, c0, hb0, hg0, hr0⟩ := h.tp.grown hg hng
    exact ⟨A0, c0, (hfar g (fun e => h.far.1 e.symm)).trans hb0, hg0, hr0⟩
  · rw [hfar z h.ne, hg.block z (blk_lt h.zz) hnz]; exact h.zz
theorem CI.setk {P : Program} (h : CI w0 W g cb z L p vD vB ds bs) {gD cap : Nat} (hv : vD = .slice (some ⟨gD, 0, none⟩) ds.length cap) {n : Nat} (hn : n < ds.length)
    {vk : Value} {ks : List Int} (hk : Kd.R kI 3 W w0.heap.size (fun _ => True) vk ks) (t : TypeId) (ht : (P.info? t).map (·.size) = some 1) :
    (Instr.storeAt t (.pointer (some ⟨gD, n * 2 + 1, none⟩)) vk).run P W = .ok () (W.setCells gD (n * 2 + 1) [vk]) ∧
    CI w0 (W.setCells gD (n * 2 + 1) [vk]) g cb z L p vD vB (ds.set n ⟨(ds.getD n zD).f0, ks⟩) bs := by
  subst hv
  obtain ⟨Ak, ck, rfl⟩ := Kd.R_slice hk
  obtain ⟨c, hcl, hM, hcc, _⟩ := Kd.R_elem h.rd zD (n : Int) (by omega) (by omega)
  rw [Int.toNat_natCast] at hM hcc
  obtain ⟨v12, rfl, _⟩ := k53_openM hM
  have hty := Kd.R_typed h.rd gD (by simp [Value.ownBlock])
  obtain ⟨cells, hce⟩ := hty
  have hkk := Kd.R_mono (Kd.R_types hk hce kI_53) (ok' := fun k => True ∧ k ≠ gD) (fun k hk => ⟨trivial, hk.2⟩)
  have hM' := k53_mkM W w0.heap.size (fun k => True ∧ k ≠ gD) (⟨(ds.getD n zD).f0, ks⟩ : DO) hkk
  have hS := Kd.R_seg h.rd (n : Int) (by omega) (by omega) (j := 1) (seg := [.slice Ak ks.length ck]) hcl (by rw [Int.toNat_natCast]; exact hcc) (show 1 + 1 ≤ 2 by decide) hM' (fun k hk => hk)
  rw [Int.toNat_natCast] at hS
  have hbg := Kd.R_base h.rd gD (by simp [Value.ownBlock])
  have hng : some g ≠ (Value.slice (some ⟨gD, 0, none⟩) ds.length cap).ownBlock := h.tp.own_ne h.rd (by decide)
  have hnc : some cb ≠ (Value.slice (some ⟨gD, 0, none⟩) ds.length cap).ownBlock := Kd.R_ne h.rd h.cc (by decide)
  have hnz : some z ≠ (Value.slice (some ⟨gD, 0, none⟩) ds.length cap).ownBlock := Kd.R_ne h.rd h.zz (by decide)
  have eo : (Value.slice (some ⟨gD, 0, none⟩) ds.length cap).ownBlock = some gD := by simp [Value.ownBlock]
  obtain ⟨h1, h2, h3, h4⟩ := setCells_same gD [.slice Ak ks.length ck] (n * 2 + 1) W
  have hb' : Below w0.heap.size w0 (W.setCells gD (n * 2 + 1) [.slice Ak ks.length ck]) := ⟨h1.trans h.bl.os, h2.trans h.bl.tape, h3.trans h.bl.output, by rw [h4]; exact h.bl.size, fun k hk => (setCells_far _ _ k (by omega)).trans (h.bl.block k hk)⟩
  refine ⟨?_, h.tp.grown hS.2 (by rw [← eo]; exact hng), hb', ?_, ?_, h.lc, h.lz, h.ne, hS.1, ?_⟩
  · obtain ⟨inner, hown⟩ := Kd.R_own h.rd
    rcases hown.2 with ⟨hv, _⟩ | ⟨g', cap', cur, hv, hb, hh, hnc, hcm, hcs, _⟩
    · cases hv
    injection hv with ha _ hc
    injection ha with ha
    injection ha with hg'
    subst hg'; subst hc
    refine run_store_run t _ _ hh rfl ht ?_ (by intro q hq; simp at hq; rw [hq]; rfl)
    have h2 : n * 2 + 2 ≤ ds.length * 2 := by omega
    have h3 : ds.length * 2 ≤ cap * 2 := Nat.mul_le_mul_right _ hnc
    have h4 : cur.size = cap * 2 := hcs
    simp only [List.length_cons, List.length_nil]
    omega
  · exact (hS.2.block cb (blk_lt h.cc) (by rw [← eo]; exact hnc)).trans h.cc
  · exact (hS.2.block z (blk_lt h.zz) (by rw [← eo]; exact hnz)).trans h.zz
  · exact Kd.R_over (v := .slice (some ⟨gD, 0, none⟩) ds.length cap) h.rb h.rd kB_53 (by rw [eo]; exact hS.2)
end
theorem rdD (k : Nat) : rdOf ByteArray.empty domsL (k : Int) = domsL.getD k ⟨#[]⟩ := by unfold rdOf; rw [Int.toNat_natCast]; rfl
end Go.Proofs.Ytipbigdpannlcaa.Tr
