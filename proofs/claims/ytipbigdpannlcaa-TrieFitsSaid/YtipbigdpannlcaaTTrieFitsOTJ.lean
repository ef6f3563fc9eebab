/- What the law TrieFits uses, thinned: printed by shake2.py. -/
import Derived.Test.YtipbigdpannlcaaTTrieFitsOTI
namespace Go.Proofs.Ytipbigdpannlcaa.Tr
open Go.RowKit Go.Proofs.Ytipbigdpannlcaa.PTrieFits Go.Proofs.Ytipbigdpannlcaa.Pure Go.Proofs.YtipbigdpannlcaaW.PrintWords Go.Proofs.YtipbigdpannlcaaW.PrintLast Go.Proofs.YtipbigdpannlcaaW.PrintMore
set_option maxRecDepth 100000
set_option linter.unusedVariables false
set_option linter.unusedSectionVars false
abbrev TAPE := IsS39
def FB (g cb : Nat) (vB0 : Value) (k : Nat) : Prop := k = g ∨ k = cb ∨ vB0.ownBlock = some k
structure BI (w0 w W : World) (g cb : Nat) (L : List Int) (p : Int) (vD vB0 vB vo : Value) (ok X : Nat → Prop) (bs : List BR) (out : List Int) : Prop where
  b0 : Below w0.heap.size w0 w
  lc : cb < w.heap.size
  xs : ∀ k, X k → w.heap.size ≤ k
  tp : TAPE w0 W g L p
  bl : Below w0.heap.size w0 W
  cc : W.heap[cb]? = some (.cells #[vD, vB] 27 (0, 0))
  rb : Kd.R kB 46 W w0.heap.size (fun k => (ok k ∨ w.heap.size ≤ k) ∧ some k ≠ vo.ownBlock ∧ ¬ X k) vB bs
  ro : Kd.R kI 3 W w.heap.size (fun k => ¬ X k) vo out
  ow : ∀ k, vB.ownBlock = some k → vB0.ownBlock = some k ∨ w.heap.size ≤ k
  fr : Frm (FB g cb vB0) w W
theorem kB_39 : ∀ q, q ∈ (46 : Nat) :: kB.E → q ≠ 39 := by intro q hq; simp [kB, k46, k44, Kd.iso, Kd.pair, Kd.string, Kd.bool, Kd.int, Kd.scalar, Kd.slice] at hq; omega
theorem kB_27 : ∀ q, q ∈ (46 : Nat) :: kB.E → q ≠ 27 := by intro q hq; simp [kB, k46, k44, Kd.iso, Kd.pair, Kd.string, Kd.bool, Kd.int, Kd.scalar, Kd.slice] at hq; omega
theorem kI_39 : ∀ q, q ∈ (3 : Nat) :: kI.E → q ≠ 39 := by intro q hq; simp [kI, Kd.int, Kd.scalar] at hq; omega
theorem kI_27 : ∀ q, q ∈ (3 : Nat) :: kI.E → q ≠ 27 := by intro q hq; simp [kI, Kd.int, Kd.scalar] at hq; omega
theorem kI_46 : ∀ q, q ∈ (3 : Nat) :: kI.E → q ≠ 46 := by intro q hq; simp [kI, Kd.int, Kd.scalar] at hq; omega
section
variable {w0 w W W' : World} {g cb : Nat} {L : List Int} {p p' : Int} {vD vB0 vB vo : Value} {ok X : Nat → Prop} {bs : List BR} {out : List Int}
theorem BI.gcb (h : BI w0 w W g cb L p vD vB0 vB vo ok X bs out) : cb ≠ g := by
  obtain ⟨A0, c0, hb, _, _⟩ := h.tp
  intro e; subst e
  have := h.cc
  rw [hb] at this
  injection this with this
  injection this with a b c
  cases b
theorem BI.szW (h : BI w0 w W g cb L p vD vB0 vB vo ok X bs out) : w.heap.size ≤ W.heap.size := h.fr.size
theorem BI.step (h : BI w0 w W g cb L p vD vB0 vB vo ok X bs out) (hb : Below w0.heap.size w0 W') (ht : TAPE w0 W' g L p') (hs : W.heap.size ≤ W'.heap.size)
    (hm : ∀ k, k < W.heap.size → k ≠ g → ¬ X k → W'.heap[k]? = W.heap[k]?) : BI w0 w W' g cb L p' vD vB0 vB vo ok X bs out := by
  have hx : ∀ k, k < w.heap.size → ¬ X k := fun k hk hX => by have := h.xs k hX; omega
  have hw := h.szW
  refine ⟨h.b0, h.lc, h.xs, ht, hb, ?_, ?_, ?_, h.ow, ?_⟩
  · rw [hm cb (by have := h.lc; omega) h.gcb (hx cb h.lc)]; exact h.cc
  · exact Kd.R_mono (Kd.R_step (h.tp.apart h.rb kB_39) (fun k hk hlt => hm k hlt hk.2 hk.1.2.2)) (fun k hk => hk.1)
  · exact Kd.R_mono (Kd.R_step (h.tp.apart h.ro kI_39) (fun k hk hlt => hm k hlt hk.2 hk.1)) (fun k hk => hk.1)
  · refine ⟨hb.os.trans h.b0.os.symm, hb.tape.trans h.b0.tape.symm, hb.output.trans h.b0.output.symm, by omega, fun k hk hn => ?_⟩
    rw [hm k (by omega) (fun e => hn (.inl e)) (hx k hk)]
    exact h.fr.block k hk hn
theorem BI.tape (h : BI w0 w W g cb L p vD vB0 vB vo ok X bs out) (ht : TAPE w0 W' g L p') (hb : Below w0.heap.size w0 W') (hk : KeepBut W W' g none) : BI w0 w W' g cb L p' vD vB0 vB vo ok X bs out :=
  h.step hb ht hk.1 (fun k hlt hg _ => hk.2 k hlt hg (by simp))
theorem BI.below (h : BI w0 w W g cb L p vD vB0 vB vo ok X bs out) (hb : Below W.heap.size W W') : BI w0 w W' g cb L p vD vB0 vB vo ok X bs out :=
  h.step (h.bl.trans (hb.mono (by have := h.bl.size; omega))) (h.tp.below hb) hb.size (fun k hlt _ _ => hb.block k hlt)
theorem BI.alloc (h : BI w0 w W g cb L p vD vB0 vB vo ok X bs out) (o : Obj) : BI w0 w (W.alloc o) g cb L p vD vB0 vB vo ok X bs out := h.below (below_alloc (Below.refl _ _) o)
theorem BI.drew (h : BI w0 w W g cb L p vD vB0 vB vo ok X bs out) : BI w0 w W.drew g cb L p vD vB0 vB vo ok X bs out := h.below (below_drew (Below.refl _ _))
theorem BI.drewN (h : BI w0 w W g cb L p vD vB0 vB vo ok X bs out) (n : Nat) : BI w0 w (W.drewN n) g cb L p vD vB0 vB vo ok X bs out := h.below (pw_below_drewN (Below.refl _ _) n)
theorem BI.aside (h : BI w0 w W g cb L p vD vB0 vB vo ok X bs out) {X' : Nat → Prop} (hX : ∀ k, X' k → X k ∨ W.heap.size ≤ k) : BI w0 w W g cb L p vD vB0 vB vo ok X' bs out := by
  refine ⟨h.b0, h.lc, fun k hk => ?_, h.tp, h.bl, h.cc, ?_, ?_, h.ow, h.fr⟩
  · rcases hX k hk with a | a
    · exact h.xs k a
    · exact Nat.le_trans h.szW a
  · exact Kd.R_mono (Kd.R_bound h.rb) (fun k hk => ⟨hk.1.1, hk.1.2.1, fun hx => by
      rcases hX k hx with a | a
      · exact hk.1.2.2 a
      · have := hk.2.2.1; omega⟩)
  · exact Kd.R_mono (Kd.R_bound h.ro) (fun k hk => fun hx => by
      rcases hX k hx with a | a
      · exact hk.1 a
      · have := hk.2.2.1; omega)
theorem BI.back (h : BI w0 w W g cb L p vD vB0 vB vo ok X bs out) : BI w0 w W g cb L p vD vB0 vB vo ok (fun _ => False) bs out :=
  ⟨h.b0, h.lc, fun _ hk => hk.elim, h.tp, h.bl, h.cc, Kd.R_mono h.rb (fun k hk => ⟨hk.1, hk.2.1, fun x => x⟩), Kd.R_mono h.ro (fun k hk => fun x => x), h.ow, h.fr⟩
theorem BI.cells (h : BI w0 w W g cb L p vD vB0 vB vo ok X bs out) {x o : Nat} (hx : X x) (hg : x ≠ g) (seg : List Value) : BI w0 w (W.setCells x o seg) g cb L p vD vB0 vB vo ok X bs out := by
  obtain ⟨h1, h2, h3, h4⟩ := setCells_same x seg o W
  have hfar : ∀ k, k ≠ x → (W.setCells x o seg).heap[k]? = W.heap[k]? := fun k hk => setCells_far seg o k hk
  have hxw := h.xs x hx
  have hw0 := h.b0.size
  refine h.step ⟨h1.trans h.bl.os, h2.trans h.bl.tape, h3.trans h.bl.output, by rw [h4]; exact h.bl.size, fun k hk => (hfar k (by omega)).trans (h.bl.block k hk)⟩ ?_ (by rw [h4]; exact Nat.le_refl _) (fun k _ _ hn => hfar k (fun e => hn (e ▸ hx)))
  obtain ⟨A0, c0, hb, hg0, hr0⟩ := h.tp
  exact ⟨A0, c0, (hfar g (fun e => hg e.symm)).trans hb, hg0, hr0⟩
theorem BI.cell (h : BI w0 w W g cb L p vD vB0 vB vo ok X bs out) {x o : Nat} (hx : X x) (hg : x ≠ g) (v : Value) : BI w0 w (W.setCell ⟨x, o, none⟩ v) g cb L p vD vB0 vB vo ok X bs out := by
  have := h.cells (o := o) hx hg [v]
  simpa [World.setCells] using this
theorem BI.c1 (h : BI w0 w W g cb L p vD vB0 vB vo ok X bs out) : W.cell? ⟨cb, 1, none⟩ = some vB := (blk_cell h.cc 1).trans rfl
theorem BI.grow (h : BI w0 w W g cb L p vD vB0 vB vo ok X bs out) {vo' : Value} {out' : List Int} (hg : W.grownBy W' vo.ownBlock) (hat : vo'.ownBlock = vo.ownBlock ∨ ∃ b, vo'.ownBlock = some b ∧ W.heap.size ≤ b)
    (hb : Below w0.heap.size w0 W') (hr : Kd.R kI 3 W' w.heap.size (fun k => ¬ X k) vo' out') : BI w0 w W' g cb L p vD vB0 vB vo' ok X bs out' := by
  have hob : ∀ k, vo.ownBlock = some k → w.heap.size ≤ k := fun k hk => Kd.R_base h.ro k hk
  have hng : some g ≠ vo.ownBlock := h.tp.own_ne h.ro (by decide)
  have hnc : some cb ≠ vo.ownBlock := fun e => by have := hob cb e.symm; have := h.lc; omega
  refine ⟨h.b0, h.lc, h.xs, h.tp.grown hg hng, hb, ?_, ?_, hr, h.ow, ?_⟩
  · rw [hg.block cb (Nat.lt_of_lt_of_le h.lc h.szW) hnc]; exact h.cc
  · refine Kd.R_mono (Kd.R_bound (Kd.R_grown (Kd.R_mono (Kd.R_bound h.rb) (ok' := fun k => ((ok k ∨ w.heap.size ≤ k) ∧ some k ≠ vo.ownBlock ∧ ¬ X k) ∧ k < W.heap.size) (fun k hk => ⟨hk.1, hk.2.2.1⟩)) hg (fun k hk => hk.1.2.1))) (fun k hk => ⟨hk.1.1.1, ?_, hk.1.1.2.2⟩)
    rcases hat with e | ⟨b, e, hlt⟩
    · rw [e]; exact hk.1.1.2.1
    · rw [e]; intro he; injection he with he; have := hk.1.2; omega
  · refine ⟨hb.os.trans h.b0.os.symm, hb.tape.trans h.b0.tape.symm, hb.output.trans h.b0.output.symm, Nat.le_trans h.szW hg.size, fun k hk hn => ?_⟩
    rw [hg.block k (Nat.lt_of_lt_of_le hk h.szW) (fun e => by have := hob k e.symm; omega)]
    exact h.fr.block k hk hn
theorem BI.row (h : BI w0 w W g cb L p vD vB0 vB vo ok X bs out) {vB' : Value} {bs' : List BR} (hg : W.grownBy W' vB.ownBlock) (hat : vB'.ownBlock = vB.ownBlock ∨ ∃ b, vB'.ownBlock = some b ∧ W.heap.size ≤ b)
    (hb : Below w0.heap.size w0 W') (hc : w0.heap.size ≤ cb) (hr : Kd.R kB 46 W' w0.heap.size (fun k => (ok k ∨ w.heap.size ≤ k) ∧ some k ≠ vo.ownBlock ∧ ¬ X k) vB' bs') : BI w0 w (W'.setCell ⟨cb, 1, none⟩ vB') g cb L p vD vB0 vB' vo ok X bs' out := by
  have hng : some g ≠ vB.ownBlock := h.tp.own_ne h.rb (by decide)
  have hnc : some cb ≠ vB.ownBlock := Kd.R_ne h.rb h.cc (by decide)
  have hcc' : W'.heap[cb]? = some (.cells #[vD, vB] 27 (0, 0)) := by
    rw [hg.block cb (Nat.lt_of_lt_of_le h.lc h.szW) hnc]; exact h.cc
  have hfar : ∀ k, k ≠ cb → (W'.setCell ⟨cb, 1, none⟩ vB').heap[k]? = W'.heap[k]? := fun k hk => Below.heap_setCell _ _ _ _ hk
  have hsz : (W'.setCell ⟨cb, 1, none⟩ vB').heap.size = W'.heap.size := by simp [World.setCell]
  have hb' : Below w0.heap.size w0 (W'.setCell ⟨cb, 1, none⟩ vB') := ⟨hb.os, hb.tape, hb.output, by rw [hsz]; exact hb.size, fun k hk => (hfar k (by omega)).trans (hb.block k hk)⟩
  refine ⟨h.b0, h.lc, h.xs, ?_, hb', ?_, Kd.R_set hr hcc' kB_27 1 vB', ?_, ?_, ?_⟩
  · obtain ⟨A0, c0, hb0, hg0, hr0⟩ := h.tp.grown hg hng
    exact ⟨A0, c0, (hfar g (fun e => h.gcb e.symm)).trans hb0, hg0, hr0⟩
  · exact blk_set hcc' 1 vB'
  · exact Kd.R_set (Kd.R_over h.ro h.rb kI_46 hg) hcc' kI_27 1 vB'
  · intro k hk
    rcases hat with e | ⟨b, e, hlt⟩
    · exact h.ow k (e ▸ hk)
    · rw [e] at hk; injection hk with hk; have := h.szW; exact .inr (by omega)
  · refine ⟨hb'.os.trans h.b0.os.symm, hb'.tape.trans h.b0.tape.symm, hb'.output.trans h.b0.output.symm, by rw [hsz]; exact Nat.le_trans h.szW hg.size, fun k hk hn => ?_⟩
    rw [hfar k (fun e => hn (.inr (.inl e))), hg.block k (Nat.lt_of_lt_of_le hk h.szW) (fun e => by
      rcases h.ow k e.symm with a | a
      · exact hn (.inr (.inr a))
      · omega)]
    exact h.fr.block k hk hn
theorem BI.put (h : BI w0 w W g cb L p vD vB0 vB vo ok X bs out) {bs' : List BR} (hg : W.grownBy W' vB.ownBlock) (hb : Below w0.heap.size w0 W')
    (hr : Kd.R kB 46 W' w0.heap.size (fun k => (ok k ∨ w.heap.size ≤ k) ∧ some k ≠ vo.ownBlock ∧ ¬ X k) vB bs') : BI w0 w W' g cb L p vD vB0 vB vo ok X bs' out := by
  have hng : some g ≠ vB.ownBlock := h.tp.own_ne h.rb (by decide)
  have hnc : some cb ≠ vB.ownBlock := Kd.R_ne h.rb h.cc (by decide)
  refine ⟨h.b0, h.lc, h.xs, h.tp.grown hg hng, hb, ?_, hr, Kd.R_over h.ro h.rb kI_46 hg, h.ow, ?_⟩
  · rw [hg.block cb (Nat.lt_of_lt_of_le h.lc h.szW) hnc]; exact h.cc
  · refine ⟨hb.os.trans h.b0.os.symm, hb.tape.trans h.b0.tape.symm, hb.output.trans h.b0.output.symm, Nat.le_trans h.szW hg.size, fun k hk hn => ?_⟩
    rw [hg.block k (Nat.lt_of_lt_of_le hk h.szW) (fun e => by
      rcases h.ow k e.symm with a | a
      · exact hn (.inr (.inr a))
      · omega)]
    exact h.fr.block k hk hn
theorem BI.enter (h : BI w0 w W g cb L p vD vB0 vB vo ok X bs out) : BI w0 W W g cb L p vD vB vB (.slice none 0 0) (fun k => (ok k ∨ w.heap.size ≤ k) ∧ some k ≠ vo.ownBlock ∧ ¬ X k) (fun _ => False) bs [] :=
  ⟨h.bl, Nat.lt_of_lt_of_le h.lc h.szW, fun _ hk => hk.elim, h.tp, h.bl, h.cc, Kd.R_mono h.rb (fun k hk => ⟨.inl hk, by simp [Value.ownBlock], fun x => x⟩), Kd.R_nil _ _ _ _ _, fun k hk => .inl hk, Frm.refl _ _⟩
theorem BI.leave (h : BI w0 w W g cb L p vD vB0 vB vo ok (fun _ => False) bs out) {vB' vk : Value} {bs' : List BR} {ks : List Int}
    (k : BI w0 W W' g cb L p' vD vB vB' vk (fun k => (ok k ∨ w.heap.size ≤ k) ∧ some k ≠ vo.ownBlock ∧ ¬ False) (fun _ => False) bs' ks) : BI w0 w W' g cb L p' vD vB0 vB' vo ok (fun _ => False) bs' out := by
  have hw := h.szW
  refine ⟨h.b0, h.lc, fun _ hk => hk.elim, k.tp, k.bl, k.cc, ?_, ?_, ?_, ?_⟩
  · refine Kd.R_mono k.rb (fun i hi => ?_)
    obtain ⟨hi, _, _⟩ := hi
    rcases hi with hi | hi
    · exact ⟨hi.1, hi.2.1, fun x => x⟩
    · exact ⟨.inr (by omega), fun e => by have := Kd.R_lt h.ro i e.symm; omega, fun x => x⟩
  · have a1 := Kd.R_apartR (h.tp.apart h.ro kI_39) h.rb kI_46
    have a2 := Kd.R_types a1 h.cc kI_27
    refine Kd.R_mono (Kd.R_step a2 (fun i hi hlt => k.fr.block i hlt ?_)) (fun i _ => fun x => x)
    rintro (e | e | e)
    · exact hi.1.1.2 e
    · exact hi.2 e
    · exact hi.1.2 e.symm
  · intro i hi
    rcases k.ow i hi with a | a
    · exact h.ow i a
    · exact .inr (by omega)
  · refine h.fr.then k.fr (fun i hlt hi => ?_)
    rcases hi with e | e | e
    · exact .inl e
    · exact .inr (.inl e)
    · rcases h.ow i e with a | a
      · exact .inr (.inr a)
      · omega
theorem BI.setk {P : Program} (h : BI w0 w W g cb L p vD vB0 vB vo ok (fun _ => False) bs out) {gB cap : Nat} (hv : vB = .slice (some ⟨gB, 0, none⟩) bs.length cap) {n : Nat} (hn : n < bs.length)
    {vk : Value} {ks : List Int} (hk : Kd.R kI 3 W w.heap.size (fun k => some k ≠ vo.ownBlock) vk ks) (t : TypeId) (ht : (P.info? t).map (·.size) = some 1) :
    (Instr.storeAt t (.pointer (some ⟨gB, n * 13 + 12, none⟩)) vk).run P W = .ok () (W.setCells gB (n * 13 + 12) [vk]) ∧
    BI w0 w (W.setCells gB (n * 13 + 12) [vk]) g cb L p vD vB0 vB vo ok (fun _ => False) (bs.set n (setK (bs.getD n zB) ks)) out := by
  subst hv
  obtain ⟨Ak, ck, rfl⟩ := Kd.R_slice hk
  obtain ⟨c, hcl, hM, hcc, _⟩ := Kd.R_elem h.rb zB (n : Int) (by omega) (by omega)
  rw [Int.toNat_natCast] at hM hcc
  obtain ⟨v12, rfl, _⟩ := k46_openM hM
  have hty := Kd.R_typed h.rb gB (by simp [Value.ownBlock])
  obtain ⟨cells, hce⟩ := hty
  have hkk := Kd.R_mono (Kd.R_bound (Kd.R_types hk hce kI_46)) (ok' := fun k => ((ok k ∨ w.heap.size ≤ k) ∧ some k ≠ vo.ownBlock ∧ ¬ False) ∧ k ≠ gB) (fun k hk => ⟨⟨.inr hk.2.1, hk.1.1, fun x => x⟩, hk.1.2⟩)
  have hM' := k46_mkM W w0.heap.size (fun k => ((ok k ∨ w.heap.size ≤ k) ∧ some k ≠ vo.ownBlock ∧ ¬ False) ∧ k ≠ gB) (setK (bs.getD n zB) ks) (Kd.R_lower hkk h.b0.size)
  have hS := Kd.R_seg h.rb (n : Int) (by omega) (by omega) (j := 12) (seg := [.slice Ak ks.length ck]) hcl (by rw [Int.toNat_natCast]; exact hcc) (show 12 + 1 ≤ 13 by decide) hM' (fun k hk => hk)
  rw [Int.toNat_natCast] at hS
  have hbg := Kd.R_base h.rb gB (by simp [Value.ownBlock])
  obtain ⟨h1, h2, h3, h4⟩ := setCells_same gB [.slice Ak ks.length ck] (n * 13 + 12) W
  have hb' : Below w0.heap.size w0 (W.setCells gB (n * 13 + 12) [.slice Ak ks.length ck]) := ⟨h1.trans h.bl.os, h2.trans h.bl.tape, h3.trans h.bl.output, by rw [h4]; exact h.bl.size, fun k hk => (setCells_far _ _ k (by omega)).trans (h.bl.block k hk)⟩
  refine ⟨?_, h.put hS.2 hb' hS.1⟩
  obtain ⟨inner, hown⟩ := Kd.R_own h.rb
  rcases hown.2 with ⟨hv, _⟩ | ⟨g', cap', cur, hv, hb, hh, hnc, hcm, hcs, _⟩
  · cases hv
  injection hv with ha _ hc
  injection ha with ha
  injection ha with hg'
  subst hg'; subst hc
  refine run_store_run t _ _ hh rfl ht ?_ (by intro q hq; simp at hq; rw [hq]; rfl)
  have h2 : n * 13 + 13 ≤ bs.length * 13 := by rw [← Nat.succ_mul]; exact Nat.mul_le_mul_right _ hn
  have h3 : bs.length * 13 ≤ cap * 13 := Nat.mul_le_mul_right _ hnc
  have h4 : cur.size = cap * 13 := hcs
  simp only [List.length_cons, List.length_nil]
  omega
end
end Go.Proofs.Ytipbigdpannlcaa.Tr
