/- What the law TrieFits uses, thinned: printed by shake2.py. -/
import Derived.Test.YtipbigdpannlcaaTTrieFitsOTJ
import Derived.Test.YtipbigdpannlcaaTTrieFitsOTB
import Derived.Test.YtipbigdpannlcaaTTrieFitsPTrieFitsx10
import Derived.Test.YtipbigdpannlcaaTTrieFitsPTrieFitsx6
namespace Go.Proofs.Ytipbigdpannlcaa.Tr
open Go.RowKit Go.Proofs.Ytipbigdpannlcaa.PTrieFits Go.Proofs.Ytipbigdpannlcaa.Pure Go.Proofs.YtipbigdpannlcaaW.PrintWords Go.Proofs.YtipbigdpannlcaaW.PrintLast Go.Proofs.YtipbigdpannlcaaW.PrintMore
set_option maxRecDepth 100000
set_option linter.unusedVariables false
set_option linter.unusedSimpArgs false
set_option linter.unusedSectionVars false
section
variable {w0 w W W' : World} {g cb : Nat} {L : List Int} {p : Int} {vD vB0 vB vo : Value} {ok X : Nat → Prop} {bs : List BR} {out : List Int} (hL : L.length ≤ 1000000)
include hL
theorem nx_call (h : BI w0 w W g cb L p vD vB0 vB vo ok X bs out) (hp : TS L p) {n : Int} (h0 : 0 < n) (h1 : n ≤ 1000) :
    Calls Try.prog 18 #[.pointer (some ⟨g, 0, none⟩), .int .i64 n] W fun e W' => e = .returned (.int .i64 (nx L p n).1) ∧ BI w0 w W' g cb L (nx L p n).2 vD vB0 vB vo ok X bs out ∧ KeepBut W W' g none :=
  (turncockmake_Tape_Next.calls g L p n _ _ w0 W h.tp h.bl (nx_f hL hp h0 h1).1).mono fun e W' ⟨a, b, c, d⟩ => ⟨a, h.tape b c d, d⟩
theorem ru_call (h : BI w0 w W g cb L p vD vB0 vB vo ok X bs out) (hp : TS L p) :
    Calls Try.prog 34 #[.pointer (some ⟨g, 0, none⟩)] W fun e W' => e = .returned (.agg #[.string (ruB L p).1.f0, .int .i64 (ruB L p).1.f1, .int .i64 (ruB L p).1.f2, .float .f64 (ruB L p).1.f3, .bool (ruB L p).1.f4, .bool (ruB L p).1.f5]) ∧ BI w0 w W' g cb L (ruB L p).2 vD vB0 vB vo ok X bs out ∧ KeepBut W W' g none :=
  (turncockmake_Rule.calls 301 g L p _ _ _ _ _ _ _ w0 W h.tp h.bl (ru_f hL hp).1).mono fun e W' ⟨a, b, c, d⟩ => ⟨a, h.tape b c d, d⟩
theorem nx_call2 (h : BI w0 w W g cb L p vD vB0 vB vo ok X bs out) (hp : TS L p) {n q p' : Int} (e : nx L p n = (q, p')) (h0 : 0 < n) (h1 : n ≤ 1000) :
    Calls Try.prog 18 #[.pointer (some ⟨g, 0, none⟩), .int .i64 n] W fun e W' => e = .returned (.int .i64 q) ∧ BI w0 w W' g cb L p' vD vB0 vB vo ok X bs out ∧ KeepBut W W' g none := by
  have := nx_call hL h hp h0 h1
  rw [e] at this
  exact this
theorem vals_call (h : BI w0 w W g cb L p vD vB0 vB vo ok X bs out) :
    Calls Try.prog 23 #[] W fun e W' => ∃ A c, e = .returned (.slice A valsL.length c) ∧ valsL.length ≤ c ∧ Kd.string.C W' A valsL.length valsL ∧ (∀ ad, A = some ad → ad.block ≠ g) ∧ BI w0 w W' g cb L p vD vB0 vB vo ok X bs out ∧ KeepBut W W' g none := by
  refine (turncockmake_Values.calls valsL W rfl).mono ?_
  rintro e W' ⟨v, rfl, hR, hb⟩
  obtain ⟨A, c, rfl, hc, hC⟩ := Kd.R_reads hR
  refine ⟨A, c, rfl, hc, hC, fun ad e => ?_, h.below hb, KeepBut.of_below hb g none⟩
  obtain ⟨g', cap, e', hlo, _⟩ := Kd.R_form hR (by decide)
  injection e' with e1
  rw [e] at e1
  injection e1 with e1
  rw [e1]
  obtain ⟨A0, c0, hb0, _⟩ := h.tp
  have := blk_lt hb0
  show g' ≠ g
  omega
theorem keys_call (h : BI w0 w W g cb L p vD vB0 vB vo ok X bs out) :
    Calls Try.prog 33 #[] W fun e W' => ∃ gk c, e = .returned (.slice (some ⟨gk, 0, none⟩) 5 c) ∧ Kd.string.R 9 W' 0 (fun k => k ≠ g) (.slice (some ⟨gk, 0, none⟩) 5 c) keysL ∧ BI w0 w W' g cb L p vD vB0 vB vo ok X bs out ∧ Below W.heap.size W W' := by
  refine (turncockmake_Keys.calls keysL W rfl).mono ?_
  rintro e W' ⟨v, rfl, hR, hb⟩
  obtain ⟨g', cap, rfl, hlo, _⟩ := Kd.R_form hR (by decide)
  refine ⟨g', cap, rfl, Kd.R_lower (Kd.R_mono (Kd.R_bound hR) (fun k hk => h.tp.fresh k hk.2.1)) (Nat.zero_le _), h.below hb, hb⟩
theorem of_call (h : BI w0 w W g cb L p vD vB0 vB vo ok X bs out) (hp : TS L p) {A : Option Addr} {c : Nat} (hc : valsL.length ≤ c) (hC : Kd.string.C W A valsL.length valsL) (hA : ∀ ad, A = some ad → ad.block ≠ g) :
    Calls Try.prog 24 #[.pointer (some ⟨g, 0, none⟩), .slice A valsL.length c] W fun e W' => e = .returned (.string (ofB L p valsL).1) ∧ BI w0 w W' g cb L (ofB L p valsL).2 vD vB0 vB vo ok X bs out ∧ KeepBut W W' g none :=
  (turncockmake_Tape_Of.calls g L p A c valsL _ _ w0 W h.tp h.bl hC hc (fun ad e _ => hA ad e) (of_f hL hp (by decide) (by decide)).1).mono fun e W' ⟨a, b, c, d⟩ => ⟨a, h.tape b c d, d⟩
end
theorem box_one {P : Program} {ops : Array Oper} {Q : Exit → Act → World → Prop} {oi : Oper} {N : Option Tmp} {a : Act} {W : World} {K : Act → World → Prop} {cs : Array Value} {t : TypeId} (hw : Region.wanted oi (yielded ops a.tmps) = true) (hN : oi.dst = N)
    (hrun : (execOp a.eval oi).run P W = .ok (.value (.pointer (some ⟨W.heap.size, 0, none⟩))) (W.alloc (.cells cs t (0, 0))))
    (h : ∀ x w1, x = W.heap.size → w1.heap[x]? = some (.cells cs t (0, 0)) → Below W.heap.size W w1 → K (a.put N (.pointer (some ⟨x, 0, none⟩))) w1) : if Region.wanted oi (yielded ops a.tmps) = true then Oper.wp P oi a W K Q else K (a.put N undef) W :=
  value_ hw hN hrun (h _ _ rfl (blk_new W _) (below_alloc (Below.refl _ _) _))
theorem store_one {P : Program} {ops : Array Oper} {Q : Exit → Act → World → Prop} {oi : Oper} {a : Act} {W : World} {K : Act → World → Prop} {x o : Nat} {t T : TypeId} {p v : Operand} {u : Value} {cur : Array Value} {seg : List Value} (hw : Region.wanted oi (yielded ops a.tmps) = true) (hN : oi.dst = none)
    (ho : oi.op = .store t p v) (hp : a.eval p = .pointer (some ⟨x, o, none⟩)) (hv : a.eval v = u) (hh : W.heap[x]? = some (.cells cur T (0, 0))) (hu : u.cells.toList = seg) (ht : (P.info? t).map (·.size) = some seg.length) (hfit : o + seg.length ≤ cur.size) (h1 : ∀ q ∈ seg, q.oneCell' = true)
    (h : K a (W.setCells x o seg)) : if Region.wanted oi (yielded ops a.tmps) = true then Oper.wp P oi a W K Q else K (a.put none undef) W := by
  refine skip_ hw hN ?_ h
  have hrun := run_store_run (P := P) t u seg hh hu ht hfit h1
  unfold execOp
  simp only [ho, hp, hv, Sem.run_bind, Sem.run_pure, Result.andThen_ok, hrun]
theorem store_at {P : Program} {ops : Array Oper} {rest : List Oper} {Q : Exit → Act → World → Prop} {oi : Oper} {a : Act} {W : World} {x o : Nat} {t T : TypeId} {p v : Operand} {u : Value} {cur : Array Value} {seg : List Value} (hg : oi.guard = none) (hN : oi.dst = none)
    (ho : oi.op = .store t p v) (hp : a.eval p = .pointer (some ⟨x, o, none⟩)) (hv : a.eval v = u) (hh : W.heap[x]? = some (.cells cur T (0, 0))) (hu : u.cells.toList = seg) (ht : (P.info? t).map (·.size) = some seg.length) (hfit : o + seg.length ≤ cur.size) (h1 : ∀ q ∈ seg, q.oneCell' = true)
    (h : wpList P ops Q rest a (W.setCells x o seg)) : wpList P ops Q (oi :: rest) a W := by
  refine wpList_plain hg fun K hK => ?_
  have hrun := run_store_run (P := P) t u seg hh hu ht hfit h1
  unfold Oper.wp execOp
  simp only [ho, hp, hv, Sem.run_bind, Sem.run_pure, Result.andThen_ok, hrun]
  show K (a.put oi.dst undef) _
  rw [hN]
  exact hK a _ h
theorem blk_cells {W : World} {x o : Nat} {T : TypeId} {cur cur' : Array Value} {seg : List Value} (h : W.heap[x]? = some (.cells cur T (0, 0))) (hf : o + seg.length ≤ cur.size) (e : cur.toList.take o ++ seg ++ cur.toList.drop (o + seg.length) = cur'.toList) : (W.setCells x o seg).heap[x]? = some (.cells cur' T (0, 0)) := by
  obtain ⟨c2, h1, h2, h3⟩ := setCells_row seg o W cur h hf
  rw [h1]
  have : c2 = cur' := Array.toList_inj.1 (h3.trans e)
  rw [this]
theorem any_snoc {f : Int → Bool} {l : List Int} {k : Nat} (h : k < l.length) : (l.take (k + 1)).any f = ((l.take k).any f || f (l.getD k 0)) := by
  rw [List.take_succ_eq_append_getElem h, List.any_append, List.getD_eq_getElem?_getD, List.getElem?_eq_getElem h]
  simp
theorem wrap_succ {k n : Nat} (h : k < n) (hn : n ≤ 9223372036854775807) : wrap64 ((k : Int) + 1) = ((k + 1 : Nat) : Int) := by unfold wrap64; omega
theorem meas_ok {n k : Nat} (h : k < n) {v : Value} (hv : v = .int .i64 ((k + 1 : Nat) : Int)) : n - (intOf v).toNat < n - (intOf (.int .i64 (k : Int))).toNat := by subst hv; simp only [intOf]; omega
theorem meas_int {q k : Int} (h0 : 0 ≤ k) (h : k < 1 + q) {v : Value} (hv : v = .int .i64 (k + 1)) : (1 + q - intOf v).toNat < (1 + q - intOf (.int .i64 k)).toNat := by subst hv; simp only [intOf]; omega
def cellsM (b : BR) : Array Value := #[.string b.f0, .string b.f1, .bool b.f2, .int .i64 b.f3, .int .i64 b.f4, .bool b.f5, .string b.f6.f0, .int .i64 b.f6.f1, .int .i64 b.f6.f2, .float .f64 b.f6.f3, .bool b.f6.f4, .bool b.f6.f5, .slice none 0 0]
def zCells : Array Value := #[.string ⟨#[]⟩, .string ⟨#[]⟩, .bool false, .int .i64 0, .int .i64 0, .bool false, .string ⟨#[]⟩, .int .i64 0, .int .i64 0, .float .f64 0, .bool false, .bool false, .slice none 0 0]
theorem goesW_ {P : Program} {ops : Array Oper} {Q : Exit → Act → World → Prop} {rest : List Oper} {oi : Oper} {a : Act} {w : World} (N : Option Tmp) (hd : oi.dst = N) {f : FuncId} {fn : Func} {as_ : Array Operand} {ts : Array TypeId} (hf : P.funcs[f]? = some fn) (hname : (fn.name == "runtime.NumGoroutine") = false) (hb : fn.body.isSome = true) (args : Array Value)
    (hop : oi.op = .call { callee := .value (.func f), args := as_, argTypes := ts }) (hargs : as_.map a.eval = args) (hw : Region.wanted oi (yielded ops a.tmps) = true)
    (h : Calls P f args w fun e w' => ∃ v, e = .returned v ∧ wpList P ops Q rest (a.put N v) w') : wpList P ops Q (oi :: rest) a w := by
  refine wpList_step fun K hK => ?_
  rw [if_pos hw]
  have he := enters_ hf hname hb args w
  have hrun : (execOp a.eval oi).run P w = .ok (.enter f args) w := by
    unfold execOp
    simp [hop, resolve, Deferred.ofValue, invoke, Act.eval, hargs, he]
  unfold Oper.wp
  rw [hrun, Oper.upon_enter]
  refine h.mono fun e w'' hh => ?_
  obtain ⟨v, rfl, hk⟩ := hh
  subst hd
  exact hK _ _ hk
theorem cellsM_at {w : World} {x T : Nat} {b : BR} (h : w.heap[x]? = some (.cells (cellsM b) T (0, 0))) :
    w.cell? ⟨x, 0, none⟩ = some (.string b.f0) ∧ w.cell? ⟨x, 1, none⟩ = some (.string b.f1) ∧ w.cell? ⟨x, 2, none⟩ = some (.bool b.f2) ∧ w.cell? ⟨x, 3, none⟩ = some (.int .i64 b.f3) ∧ w.cell? ⟨x, 4, none⟩ = some (.int .i64 b.f4) ∧ w.cell? ⟨x, 5, none⟩ = some (.bool b.f5) ∧ w.cell? ⟨x, 6, none⟩ = some (.string b.f6.f0) ∧ w.cell? ⟨x, 7, none⟩ = some (.int .i64 b.f6.f1) ∧ w.cell? ⟨x, 8, none⟩ = some (.int .i64 b.f6.f2) ∧ w.cell? ⟨x, 9, none⟩ = some (.float .f64 b.f6.f3) ∧ w.cell? ⟨x, 10, none⟩ = some (.bool b.f6.f4) ∧ w.cell? ⟨x, 11, none⟩ = some (.bool b.f6.f5) ∧ w.cell? ⟨x, 12, none⟩ = some (.slice none 0 0) :=
  ⟨(blk_cell h 0).trans rfl, (blk_cell h 1).trans rfl, (blk_cell h 2).trans rfl, (blk_cell h 3).trans rfl, (blk_cell h 4).trans rfl, (blk_cell h 5).trans rfl, (blk_cell h 6).trans rfl, (blk_cell h 7).trans rfl, (blk_cell h 8).trans rfl, (blk_cell h 9).trans rfl, (blk_cell h 10).trans rfl, (blk_cell h 11).trans rfl, (blk_cell h 12).trans rfl⟩
theorem store_run {P : Program} {ops : Array Oper} {rest : List Oper} {Q : Exit → Act → World → Prop} {oi : Oper} {a : Act} {W W' : World} {t : TypeId} {p v : Operand} {q u : Value} (hg : oi.guard = none) (hN : oi.dst = none)
    (ho : oi.op = .store t p v) (hp : a.eval p = q) (hv : a.eval v = u) (hrun : (Instr.storeAt t q u).run P W = .ok () W') (h : wpList P ops Q rest a W') : wpList P ops Q (oi :: rest) a W := by
  refine wpList_plain hg fun K hK => ?_
  unfold Oper.wp execOp
  simp only [ho, hp, hv, Sem.run_bind, Sem.run_pure, Result.andThen_ok, hrun]
  show K (a.put oi.dst undef) _
  rw [hN]
  exact hK a _ h
theorem BI.outs {w0 w W W' : World} {g cb x : Nat} {L : List Int} {p : Int} {vD vB0 vB vo v1 : Value} {ok : Nat → Prop} {bs : List BR} {out out' : List Int} (h : BI w0 w W g cb L p vD vB0 vB vo ok (fun k => k = x) bs out) {b : BR} (hX : W.heap[x]? = some (.cells (cellsM b) 46 (0, 0)))
    (hr : Kd.R kI 3 W' w.heap.size (fun k => ¬ k = x) v1 out') (hb : Below w.heap.size W W') (hg : W.grownBy W' vo.ownBlock) (hat : v1.ownBlock = vo.ownBlock ∨ ∃ b, v1.ownBlock = some b ∧ W.heap.size ≤ b) :
    BI w0 w W' g cb L p vD vB0 vB v1 ok (fun k => k = x) bs out' ∧ W'.heap[x]? = some (.cells (cellsM b) 46 (0, 0)) :=
  ⟨h.grow hg hat (h.bl.trans (hb.mono h.b0.size)) hr, (hg.block x (blk_lt hX) (fun e => h.ro.1 x e.symm rfl)).trans hX⟩
theorem BI.fresh {w0 w W : World} {g cb x : Nat} {L : List Int} {p : Int} {vD vB0 vB vo : Value} {ok : Nat → Prop} {bs : List BR} {out : List Int} (h : BI w0 w W g cb L p vD vB0 vB vo ok (fun k => k = x) bs out) (hx : x < W.heap.size) :
    (∀ k, W.heap.size ≤ k → ¬ k = x) ∧ ∀ k, W.heap.size ≤ k → (ok k ∨ w.heap.size ≤ k) ∧ some k ≠ vo.ownBlock ∧ ¬ k = x :=
  ⟨fun k hk => by omega, fun k hk => ⟨.inr (Nat.le_trans h.szW hk), fun e => by have := Kd.R_lt h.ro k e.symm; omega, by omega⟩⟩
theorem BI.kids {w0 w W W' : World} {g cb : Nat} {L : List Int} {p p' : Int} {vD vB0 vB vB1 vB' vo vk : Value} {ok ok' X : Nat → Prop} {bs bs' : List BR} {out ks : List Int} (h : BI w0 w W g cb L p vD vB0 vB vo ok X bs out) (k : BI w0 W W' g cb L p' vD vB1 vB' vk ok' (fun _ => False) bs' ks) :
    Kd.R kI 3 W' w.heap.size (fun k => some k ≠ vo.ownBlock) vk ks :=
  Kd.R_lower (Kd.R_mono (Kd.R_bound k.ro) (fun i hi e => by have := Kd.R_lt h.ro i e.symm; have := hi.2.1; omega)) h.szW
set_option maxHeartbeats 4000000 in
theorem branch_any {w0 : World} {g cb : Nat} {L : List Int} (hL : L.length ≤ 1000000) (hcb : w0.heap.size ≤ cb) (dom : Int) (f : Nat) : ∀ {w : World} {p : Int} {vD vB : Value} {ok : Nat → Prop} {bs : List BR} (up : Int) (hp : TS L p) (h40 : bs.length ≤ 40) (hwf : ∀ b ∈ bs, WfB b) (hf : f ≤ 3) (h : BI w0 w w g cb L p vD vB vB (.slice none 0 0) ok (fun _ => False) bs []),
    Calls Try.prog 20 #[.pointer (some ⟨g, 0, none⟩), .pointer (some ⟨cb, 0, none⟩), .int .i64 dom, .int .i64 up, .int .i64 (4 - f)] w fun e w' => ∃ vo vB', e = .returned vo ∧ BI w0 w w' g cb L (brs L dom (f + 1) up bs p).2.2 vD vB vB' vo ok (fun _ => False) (brs L dom (f + 1) up bs p).2.1 (brs L dom (f + 1) up bs p).1 := by
  induction f using Nat.strongRecOn with
  | _ f ih =>
  intro w p vD vB ok bs up hp h40 hwf hf h
  rw [brs]
  obtain ⟨e0, a0, b0, t0⟩ := nx_f hL hp (n := 3) (by omega) (by omega)
  have HN := Aside0.mk (nx_call hL h hp (n := 3) (by omega) (by omega))
  obtain ⟨⟨q0, p0⟩, hq0⟩ : ∃ q, q = nx L p 3 := ⟨_, rfl⟩
  rw [← hq0] at a0 b0 t0 HN ⊢
  have HT := Aside0.mk t0
  clear t0 e0 hq0
  obtain ⟨R, hR⟩ : ∃ R, R = bl L dom up (decide (0 < f)) (fun u bs p => brs L dom f u bs p) (1 + q0).toNat bs p0 [] := ⟨_, rfl⟩
  dsimp only at a0 b0 HN ⊢
  rw [← hR]
  have HR := Aside0.mk hR.symm
  have HH := Aside0.mk h
  have WF := Aside0.mk hwf
  have IH := Aside0.mk ih
  clear hR h hwf ih
  go_enter Try.func20, Try.ntmps20
  go_wp2_with (first | ((with_reducible refine gate_callee (f := 18) rfl ?_); refine goesL_ (some 21) rfl rfl Try.func18 (by kernel_rfl) rfl #[.pointer (some ⟨g, 0, none⟩), .int .i64 3] rfl (by (try simp only [List.map_toArray, List.map_cons, List.map_nil]); first | done | rfl) ?_; (with_reducible refine (HN.out).mono ?_); rintro e w1 ⟨rfl, hi, hk⟩; refine ⟨_, rfl, ?_⟩; have HI := Aside0.mk hi; clear hi hk))
  have w12 : wrap64 (1 + q0) = 1 + q0 := wrap_small (by omega) (by omega)
  try simp only [w12]
  clear HN HH
  go_loopw [11, 13] (fun o i wr => ∃ (k p1 : Int) (vo vB1 : Value) (bs1 : List BR) (out1 : List Int), vo = o ∧ i = .int .i64 k ∧ 0 ≤ k ∧ k ≤ 1 + q0 ∧ bs1.length ≤ 40 ∧ Aside0 (TS L p1) ∧ Aside0 (bl L dom up (decide (0 < f)) (fun u bs p => brs L dom f u bs p) (1 + q0 - k).toNat bs1 p1 out1 = R) ∧ Aside0 (∀ b ∈ bs1, WfB b) ∧ Aside0 ((∀ j ∈ out1, 0 ≤ j ∧ j < bs1.length) ∧ (out1.length : Int) ≤ k) ∧ Aside0 (BI w0 w wr g cb L p1 vD vB vB1 vo ok (fun _ => False) bs1 out1)) (fun _ i _ => (1 + q0 - intOf i).toNat)
  case atStart => exact ⟨0, p0, _, _, bs, [], rfl, rfl, by omega, by omega, h40, HT, by rw [Int.sub_zero]; exact HR, WF, ⟨(fun j hj => by cases hj), by simp⟩, HI⟩
  case round =>
    obtain ⟨k, p1, vo, vB1, bs1, out1, rfl, rfl, hk0, hk1, hl40, HT1, HW, WF1, HO, HB⟩ := hrel
    clear HI HR WF HT
    obtain ⟨A, c, rfl⟩ := Kd.R_slice HB.out.rb
    obtain ⟨Ao, co, rfl⟩ := Kd.R_slice HB.out.ro
    have g1 := HB.out.c1
    by_cases hlt : k < 1 + q0
    · have d1 : decide (k < 1 + q0) = true := decide_eq_true hlt
      by_cases h4 : bs1.length < 40
      · have d2 : decide (bs1.length < 40) = true := decide_eq_true h4
        obtain ⟨e1, a1, b1, t1⟩ := nx_f hL HT1.out (n := 3) (by omega) (by omega)
        clear e1
        obtain ⟨⟨q1, p2⟩, E1⟩ : ∃ q, nx L p1 3 = q := ⟨_, rfl⟩
        rw [E1] at a1 b1 t1
        obtain ⟨e2, a2, b2, t2⟩ := nx_f hL t1 (n := 2) (by omega) (by omega)
        clear e2
        obtain ⟨⟨q2, p3⟩, E2⟩ : ∃ q, nx L p2 2 = q := ⟨_, rfl⟩
        dsimp only at a1 b1 t1 a2 b2 t2
        rw [E2] at a2 b2 t2
        dsimp only at a2 b2 t2
        have b15 : q1 < 5 := by omega
        have E1 := Aside0.mk E1
        have E2 := Aside0.mk E2
        have HT2 := Aside0.mk t1
        have HT3 := Aside0.mk t2
        clear t1 t2
        go_wp2
        clear g1
        refine start_ (n := 13) (S := fun _ => True) (ds := []) #[false, false, false, false, false, false, false, false, false, false, false, false, false] (by kernel_rfl) rfl rfl trivial (fun _ => ?_)
        replace HB := Aside0.mk HB.out.drew
        generalize wr.drew = wd at *
        refine pure_ (i := 1) (N := (some 37)) (v := ?_) (a' := ?_) #[false, true, false, false, false, false, false, false, false, false, false, false, false] rfl rfl (by kernel_rfl) (fun _ _ _ h => h) (Or.inl ⟨by rfl, ?_⟩) ?_ ?_
        rotate_left; (intro w'; go_simp; try with_reducible rfl); rotate_left; (simp only [Act.put, List.setIfInBounds_toArray, List.set_cons_zero, List.set_cons_succ]; rfl)
        refine pure_ (i := 5) (N := (some 41)) (v := ?_) (a' := ?_) #[false, true, false, false, false, true, false, false, false, false, false, false, false] rfl rfl (by kernel_rfl) (fun _ _ _ h => h) (Or.inl ⟨by rfl, ?_⟩) ?_ ?_
        rotate_left; (intro w'; go_simp; try with_reducible rfl); rotate_left; (simp only [Act.put, List.setIfInBounds_toArray, List.set_cons_zero, List.set_cons_succ]; rfl)
        refine pure_ (i := 8) (N := (some 44)) (v := ?_) (a' := ?_) #[false, true, false, false, false, true, false, false, true, false, false, false, false] rfl rfl (by kernel_rfl) (fun _ _ _ h => h) (Or.inl ⟨by rfl, ?_⟩) ?_ ?_
        rotate_left; (intro w'; go_simp; try with_reducible rfl); rotate_left; (simp only [Act.put, List.setIfInBounds_toArray, List.set_cons_zero, List.set_cons_succ]; rfl)
        refine pure_ (i := 9) (N := (some 45)) (v := ?_) (a' := ?_) #[false, true, false, false, false, true, false, false, true, true, false, false, false] rfl rfl (by kernel_rfl) (fun _ _ _ h => h) (Or.inl ⟨by rfl, ?_⟩) ?_ ?_
        rotate_left; (intro w'; go_simp; try with_reducible rfl); rotate_left; (simp only [Act.put, List.setIfInBounds_toArray, List.set_cons_zero, List.set_cons_succ]; rfl)
        refine join_ (σ := Nat × Nat × Nat) 1 #[true, true, true, true, true, true, true, true, true, true, true, true, false] (fun s => [(36, .slice (some ⟨s.1, 0, none⟩) 5 s.2.1), (37, .pointer (some ⟨g, 0, none⟩)), (38, .int .i64 q1), (39, .pointer (some ⟨s.1, q1.toNat, none⟩)), (40, .string (rdOf ByteArray.empty keysL q1)), (41, .pointer (some ⟨g, 0, none⟩)), (42, .int .i64 q2), (43, .bool (q2 == 0)), (44, .int .i64 dom), (45, .int .i64 up), (46, .agg #[.string (rdOf ByteArray.empty keysL q1), .string ⟨#[]⟩, .bool (q2 == 0), .int .i64 dom, .int .i64 up, .bool false, .string ⟨#[]⟩, .int .i64 0, .int .i64 0, .float .f64 0, .bool false, .bool false, .slice none 0 0]), (14, .pointer (some ⟨s.2.2, 0, none⟩))]) (fun s W' => Aside0 (BI w0 w W' g cb L p3 vD vB (.slice A bs1.length c) (.slice Ao out1.length co) ok (fun k => k = s.2.2) bs1 out1) ∧ Aside0 (W'.heap[s.2.2]? = some (.cells zCells 46 (0, 0))) ∧ Aside0 (s.2.2 ≠ g)) ?_ ?_
        rotate_left
        · intro hJ
          refine two_ (i := 0) (j := 11) (Ni := (some 36)) (Nj := (some 14)) #[true, true, false, false, false, true, false, false, true, true, false, false, false] #[false, true, false, false, false, true, false, false, true, true, false, true, false] rfl rfl rfl rfl (by kernel_rfl) (by decide) (by decide) (fun K hK => ?_) (fun K hK => ?_)
          ·
           refine goes_ Try.func33 (by kernel_rfl) rfl #[] (by rfl) rfl rfl (by first | rfl | simp) ?_
           (with_reducible refine (keys_call hL HB.out).mono ?_)
           rintro e wn ⟨gk, ck, rfl, hR, hi, hb⟩
           refine ⟨_, rfl, ?_⟩
           clear HB
           have HB := Aside0.mk hi
           have HR := Aside0.mk hR
           clear hi hb hR
           refine hK.out _ _ trivial (fun _ => ?_)
           clear hK K
           refine norm_ (a' := ?_) ?_ ?_
           rotate_left; (show Act.put _ (some 36) _ = _; simp only [Act.put, List.setIfInBounds_toArray, List.set_cons_zero, List.set_cons_succ]; rfl)
           refine two_ (i := 2) (j := 11) (Ni := (some 38)) (Nj := (some 14)) #[true, true, true, false, false, true, false, false, true, true, false, false, false] #[true, true, false, false, false, true, false, false, true, true, false, true, false] rfl rfl rfl rfl (by kernel_rfl) (by decide) (by decide) (fun K hK => ?_) (fun K hK => ?_)
           ·
            refine goes_ Try.func18 (by kernel_rfl) rfl #[.pointer (some ⟨g, 0, none⟩), .int .i64 3] (by rfl) rfl rfl (by (try simp only [List.map_toArray, List.map_cons, List.map_nil]); first | done | rfl) ?_
            (with_reducible refine (nx_call2 hL HB.out HT1.out E1.out (by omega) (by omega)).mono ?_)
            rintro e wn ⟨rfl, hi, hk⟩
            refine ⟨_, rfl, ?_⟩
            have HR2 := Aside0.mk (Kd.R_keep HR.out hk (fun _ h => h))
            clear HR
            have HR := HR2
            clear HR2
            clear HB
            have HB := Aside0.mk hi
            clear hi hk
            refine hK.out _ _ trivial (fun _ => ?_)
            clear hK K
            refine norm_ (a' := ?_) ?_ ?_
            rotate_left; (show Act.put _ (some 38) _ = _; simp only [Act.put, List.setIfInBounds_toArray, List.set_cons_zero, List.set_cons_succ]; rfl)
            refine pure_ (i := 3) (N := (some 39)) (v := ?_) (a' := ?_) #[true, true, true, true, false, true, false, false, true, true, false, false, false] rfl rfl (by kernel_rfl) (fun _ _ _ h => h) (Or.inl ⟨by rfl, ?_⟩) ?_ ?_
            rotate_left; (intro w'; go_simp; try with_reducible rfl); rotate_left; (simp only [Act.put, List.setIfInBounds_toArray, List.set_cons_zero, List.set_cons_succ]; rfl)
            refine three_ (i := 4) (j := 6) (k := 11) (Ni := (some 40)) (Nj := (some 42)) (Nk := (some 14)) #[true, true, true, true, true, true, false, false, true, true, false, false, false] #[true, true, true, true, false, true, true, false, true, true, false, false, false] #[true, true, true, true, false, true, false, false, true, true, false, true, false] rfl rfl rfl rfl rfl rfl (by kernel_rfl) (by decide) (by decide) (by decide) (fun K hK => ?_) (fun K hK => ?_) (fun K hK => ?_)
            ·
             have hc : _ = some (Value.string (rdOf ByteArray.empty keysL q1)) := (Kd.R_celln ByteArray.empty HR.out q1 a1 b15).1
             refine value_ (w1 := ?_) (v := ?_) (by rfl) rfl ?_ ?_
             rotate_left 2
             · go_simp
               constructor
               · rfl
               · rfl
             clear hc HR
             refine hK.out _ _ trivial (fun _ => ?_)
             clear hK K
             refine norm_ (a' := ?_) ?_ ?_
             rotate_left; (show Act.put _ (some 40) _ = _; simp only [Act.put, List.setIfInBounds_toArray, List.set_cons_zero, List.set_cons_succ]; rfl)
             refine two_ (i := 6) (j := 11) (Ni := (some 42)) (Nj := (some 14)) #[true, true, true, true, true, true, true, false, true, true, false, false, false] #[true, true, true, true, true, true, false, false, true, true, false, true, false] rfl rfl rfl rfl (by kernel_rfl) (by decide) (by decide) (fun K hK => ?_) (fun K hK => ?_)
             ·
              refine goes_ Try.func18 (by kernel_rfl) rfl #[.pointer (some ⟨g, 0, none⟩), .int .i64 2] (by rfl) rfl rfl (by (try simp only [List.map_toArray, List.map_cons, List.map_nil]); first | done | rfl) ?_
              (with_reducible refine (nx_call2 hL HB.out HT2.out E2.out (by omega) (by omega)).mono ?_)
              rintro e wn ⟨rfl, hi, hk⟩
              refine ⟨_, rfl, ?_⟩
              clear HB
              have HB := Aside0.mk hi
              clear hi hk
              refine hK.out _ _ trivial (fun _ => ?_)
              clear hK K
              refine norm_ (a' := ?_) ?_ ?_
              rotate_left; (show Act.put _ (some 42) _ = _; simp only [Act.put, List.setIfInBounds_toArray, List.set_cons_zero, List.set_cons_succ]; rfl)
              refine pure_ (i := 7) (N := (some 43)) (v := ?_) (a' := ?_) #[true, true, true, true, true, true, true, true, true, true, false, false, false] rfl rfl (by kernel_rfl) (fun _ _ _ h => h) (Or.inl ⟨by rfl, ?_⟩) ?_ ?_
              rotate_left; (intro w'; go_simp; try with_reducible rfl); rotate_left; (simp only [Act.put, List.setIfInBounds_toArray, List.set_cons_zero, List.set_cons_succ]; rfl)
              refine pure_ (i := 10) (N := (some 46)) (v := ?_) (a' := ?_) #[true, true, true, true, true, true, true, true, true, true, true, false, false] rfl rfl (by kernel_rfl) (fun _ _ _ h => h) (Or.inl ⟨by rfl, ?_⟩) ?_ ?_
              rotate_left; (intro w'; go_simp; try with_reducible rfl); rotate_left; (simp only [Act.put, List.setIfInBounds_toArray, List.set_cons_zero, List.set_cons_succ]; rfl)
              refine one_ (i := 11) (N := (some 14)) #[true, true, true, true, true, true, true, true, true, true, true, true, false] rfl rfl (by kernel_rfl) (by decide) (fun K hK => ?_)
              refine box_one (cs := zCells) (t := 46) (by rfl) rfl ?_ ?_
              · go_simp
                try rfl
              intro x wn hx hX hb
              have HXg := Aside0.mk (show x ≠ g by rw [hx]; exact HB.out.tp.fresh _ (Nat.le_refl _))
              have HX := Aside0.mk hX
              have HB2 := Aside0.mk ((HB.out.aside (X' := fun k => k = x) (by intro k e; right; rw [e, hx]; exact Nat.le_refl _)).below hb)
              clear HB
              have HB := HB2
              clear HB2
              clear hx hX hb
              refine hK.out _ _ trivial (fun _ => ?_)
              clear hK K
              refine norm_ (a' := ?_) ?_ ?_
              rotate_left; (show Act.put _ (some 14) _ = _; simp only [Act.put, List.setIfInBounds_toArray, List.set_cons_zero, List.set_cons_succ]; rfl)
              exact norm_ (by first | (simp only [putAll, Act.put, List.setIfInBounds_toArray, List.set_cons_zero, List.set_cons_succ]; done) | (simp only [putAll, Act.put, List.setIfInBounds_toArray, List.set_cons_zero, List.set_cons_succ]; rfl)) (hJ (gk, ck, x) _ ⟨HB, HX, HXg⟩)
             ·
              refine box_one (cs := zCells) (t := 46) (by rfl) rfl ?_ ?_
              · go_simp
                try rfl
              intro x wn hx hX hb
              have HXg := Aside0.mk (show x ≠ g by rw [hx]; exact HB.out.tp.fresh _ (Nat.le_refl _))
              have HX := Aside0.mk hX
              have HB2 := Aside0.mk ((HB.out.aside (X' := fun k => k = x) (by intro k e; right; rw [e, hx]; exact Nat.le_refl _)).below hb)
              clear HB
              have HB := HB2
              clear HB2
              clear hx hX hb
              refine hK.out _ _ trivial (fun _ => ?_)
              clear hK K
              refine norm_ (a' := ?_) ?_ ?_
              rotate_left; (show Act.put _ (some 14) _ = _; simp only [Act.put, List.setIfInBounds_toArray, List.set_cons_zero, List.set_cons_succ]; rfl)
              refine one_ (i := 6) (N := (some 42)) #[true, true, true, true, true, true, true, false, true, true, false, true, false] rfl rfl (by kernel_rfl) (by decide) (fun K hK => ?_)
              refine goes_ Try.func18 (by kernel_rfl) rfl #[.pointer (some ⟨g, 0, none⟩), .int .i64 2] (by rfl) rfl rfl (by (try simp only [List.map_toArray, List.map_cons, List.map_nil]); first | done | rfl) ?_
              (with_reducible refine (nx_call2 hL HB.out HT2.out E2.out (by omega) (by omega)).mono ?_)
              rintro e wn ⟨rfl, hi, hk⟩
              refine ⟨_, rfl, ?_⟩
              have HX2 := Aside0.mk (KeepBut.blk hk HX.out HXg.out (by simp))
              clear HX
              have HX := HX2
              clear HX2
              clear HB
              have HB := Aside0.mk hi
              clear hi hk
              refine hK.out _ _ trivial (fun _ => ?_)
              clear hK K
              refine norm_ (a' := ?_) ?_ ?_
              rotate_left; (show Act.put _ (some 42) _ = _; simp only [Act.put, List.setIfInBounds_toArray, List.set_cons_zero, List.set_cons_succ]; rfl)
              refine pure_ (i := 7) (N := (some 43)) (v := ?_) (a' := ?_) #[true, true, true, true, true, true, true, true, true, true, false, true, false] rfl rfl (by kernel_rfl) (fun _ _ _ h => h) (Or.inl ⟨by rfl, ?_⟩) ?_ ?_
              rotate_left; (intro w'; go_simp; try with_reducible rfl); rotate_left; (simp only [Act.put, List.setIfInBounds_toArray, List.set_cons_zero, List.set_cons_succ]; rfl)
              refine pure_ (i := 10) (N := (some 46)) (v := ?_) (a' := ?_) #[true, true, true, true, true, true, true, true, true, true, true, true, false] rfl rfl (by kernel_rfl) (fun _ _ _ h => h) (Or.inl ⟨by rfl, ?_⟩) ?_ ?_
              rotate_left; (intro w'; go_simp; try with_reducible rfl); rotate_left; (simp only [Act.put, List.setIfInBounds_toArray, List.set_cons_zero, List.set_cons_succ]; rfl)
              exact norm_ (by first | (simp only [putAll, Act.put, List.setIfInBounds_toArray, List.set_cons_zero, List.set_cons_succ]; done) | (simp only [putAll, Act.put, List.setIfInBounds_toArray, List.set_cons_zero, List.set_cons_succ]; rfl)) (hJ (gk, ck, x) _ ⟨HB, HX, HXg⟩)
            ·
             refine goes_ Try.func18 (by kernel_rfl) rfl #[.pointer (some ⟨g, 0, none⟩), .int .i64 2] (by rfl) rfl rfl (by (try simp only [List.map_toArray, List.map_cons, List.map_nil]); first | done | rfl) ?_
             (with_reducible refine (nx_call2 hL HB.out HT2.out E2.out (by omega) (by omega)).mono ?_)
             rintro e wn ⟨rfl, hi, hk⟩
             refine ⟨_, rfl, ?_⟩
             have HR2 := Aside0.mk (Kd.R_keep HR.out hk (fun _ h => h))
             clear HR
             have HR := HR2
             clear HR2
             clear HB
             have HB := Aside0.mk hi
             clear hi hk
             refine hK.out _ _ trivial (fun _ => ?_)
             clear hK K
             refine norm_ (a' := ?_) ?_ ?_
             rotate_left; (show Act.put _ (some 42) _ = _; simp only [Act.put, List.setIfInBounds_toArray, List.set_cons_zero, List.set_cons_succ]; rfl)
             refine pure_ (i := 7) (N := (some 43)) (v := ?_) (a' := ?_) #[true, true, true, true, false, true, true, true, true, true, false, false, false] rfl rfl (by kernel_rfl) (fun _ _ _ h => h) (Or.inl ⟨by rfl, ?_⟩) ?_ ?_
             rotate_left; (intro w'; go_simp; try with_reducible rfl); rotate_left; (simp only [Act.put, List.setIfInBounds_toArray, List.set_cons_zero, List.set_cons_succ]; rfl)
             refine two_ (i := 4) (j := 11) (Ni := (some 40)) (Nj := (some 14)) #[true, true, true, true, true, true, true, true, true, true, false, false, false] #[true, true, true, true, false, true, true, true, true, true, false, true, false] rfl rfl rfl rfl (by kernel_rfl) (by decide) (by decide) (fun K hK => ?_) (fun K hK => ?_)
             ·
              have hc : _ = some (Value.string (rdOf ByteArray.empty keysL q1)) := (Kd.R_celln ByteArray.empty HR.out q1 a1 b15).1
              refine value_ (w1 := ?_) (v := ?_) (by rfl) rfl ?_ ?_
              rotate_left 2
              · go_simp
                constructor
                · rfl
                · rfl
              clear hc HR
              refine hK.out _ _ trivial (fun _ => ?_)
              clear hK K
              refine norm_ (a' := ?_) ?_ ?_
              rotate_left; (show Act.put _ (some 40) _ = _; simp only [Act.put, List.setIfInBounds_toArray, List.set_cons_zero, List.set_cons_succ]; rfl)
              refine pure_ (i := 10) (N := (some 46)) (v := ?_) (a' := ?_) #[true, true, true, true, true, true, true, true, true, true, true, false, false] rfl rfl (by kernel_rfl) (fun _ _ _ h => h) (Or.inl ⟨by rfl, ?_⟩) ?_ ?_
              rotate_left; (intro w'; go_simp; try with_reducible rfl); rotate_left; (simp only [Act.put, List.setIfInBounds_toArray, List.set_cons_zero, List.set_cons_succ]; rfl)
              refine one_ (i := 11) (N := (some 14)) #[true, true, true, true, true, true, true, true, true, true, true, true, false] rfl rfl (by kernel_rfl) (by decide) (fun K hK => ?_)
              refine box_one (cs := zCells) (t := 46) (by rfl) rfl ?_ ?_
              · go_simp
                try rfl
              intro x wn hx hX hb
              have HXg := Aside0.mk (show x ≠ g by rw [hx]; exact HB.out.tp.fresh _ (Nat.le_refl _))
              have HX := Aside0.mk hX
              have HB2 := Aside0.mk ((HB.out.aside (X' := fun k => k = x) (by intro k e; right; rw [e, hx]; exact Nat.le_refl _)).below hb)
              clear HB
              have HB := HB2
              clear HB2
              clear hx hX hb
              refine hK.out _ _ trivial (fun _ => ?_)
              clear hK K
              refine norm_ (a' := ?_) ?_ ?_
              rotate_left; (show Act.put _ (some 14) _ = _; simp only [Act.put, List.setIfInBounds_toArray, List.set_cons_zero, List.set_cons_succ]; rfl)
              exact norm_ (by first | (simp only [putAll, Act.put, List.setIfInBounds_toArray, List.set_cons_zero, List.set_cons_succ]; done) | (simp only [putAll, Act.put, List.setIfInBounds_toArray, List.set_cons_zero, List.set_cons_succ]; rfl)) (hJ (gk, ck, x) _ ⟨HB, HX, HXg⟩)
             ·
              refine box_one (cs := zCells) (t := 46) (by rfl) rfl ?_ ?_
              · go_simp
                try rfl
              intro x wn hx hX hb
              have HXg := Aside0.mk (show x ≠ g by rw [hx]; exact HB.out.tp.fresh _ (Nat.le_refl _))
              have HX := Aside0.mk hX
              have HB2 := Aside0.mk ((HB.out.aside (X' := fun k => k = x) (by intro k e; right; rw [e, hx]; exact Nat.le_refl _)).below hb)
              clear HB
              have HB := HB2
              clear HB2
              have HR2 := Aside0.mk (Kd.R_below HR.out hb)
              clear HR
              have HR := HR2
              clear HR2
              clear hx hX hb
              refine hK.out _ _ trivial (fun _ => ?_)
              clear hK K
              refine norm_ (a' := ?_) ?_ ?_
              rotate_left; (show Act.put _ (some 14) _ = _; simp only [Act.put, List.setIfInBounds_toArray, List.set_cons_zero, List.set_cons_succ]; rfl)
              refine one_ (i := 4) (N := (some 40)) #[true, true, true, true, true, true, true, true, true, true, false, true, false] rfl rfl (by kernel_rfl) (by decide) (fun K hK => ?_)
              have hc : _ = some (Value.string (rdOf ByteArray.empty keysL q1)) := (Kd.R_celln ByteArray.empty HR.out q1 a1 b15).1
              refine value_ (w1 := ?_) (v := ?_) (by rfl) rfl ?_ ?_
              rotate_left 2
              · go_simp
                constructor
                · rfl
                · rfl
              clear hc HR
              refine hK.out _ _ trivial (fun _ => ?_)
              clear hK K
              refine norm_ (a' := ?_) ?_ ?_
              rotate_left; (show Act.put _ (some 40) _ = _; simp only [Act.put, List.setIfInBounds_toArray, List.set_cons_zero, List.set_cons_succ]; rfl)
              refine pure_ (i := 10) (N := (some 46)) (v := ?_) (a' := ?_) #[true, true, true, true, true, true, true, true, true, true, true, true, false] rfl rfl (by kernel_rfl) (fun _ _ _ h => h) (Or.inl ⟨by rfl, ?_⟩) ?_ ?_
              rotate_left; (intro w'; go_simp; try with_reducible rfl); rotate_left; (simp only [Act.put, List.setIfInBounds_toArray, List.set_cons_zero, List.set_cons_succ]; rfl)
              exact norm_ (by first | (simp only [putAll, Act.put, List.setIfInBounds_toArray, List.set_cons_zero, List.set_cons_succ]; done) | (simp only [putAll, Act.put, List.setIfInBounds_toArray, List.set_cons_zero, List.set_cons_succ]; rfl)) (hJ (gk, ck, x) _ ⟨HB, HX, HXg⟩)
            ·
             refine box_one (cs := zCells) (t := 46) (by rfl) rfl ?_ ?_
             · go_simp
               try rfl
             intro x wn hx hX hb
             have HXg := Aside0.mk (show x ≠ g by rw [hx]; exact HB.out.tp.fresh _ (Nat.le_refl _))
             have HX := Aside0.mk hX
             have HB2 := Aside0.mk ((HB.out.aside (X' := fun k => k = x) (by intro k e; right; rw [e, hx]; exact Nat.le_refl _)).below hb)
             clear HB
             have HB := HB2
             clear HB2
             have HR2 := Aside0.mk (Kd.R_below HR.out hb)
             clear HR
             have HR := HR2
             clear HR2
             clear hx hX hb
             refine hK.out _ _ trivial (fun _ => ?_)
             clear hK K
             refine norm_ (a' := ?_) ?_ ?_
             rotate_left; (show Act.put _ (some 14) _ = _; simp only [Act.put, List.setIfInBounds_toArray, List.set_cons_zero, List.set_cons_succ]; rfl)
             refine two_ (i := 4) (j := 6) (Ni := (some 40)) (Nj := (some 42)) #[true, true, true, true, true, true, false, false, true, true, false, true, false] #[true, true, true, true, false, true, true, false, true, true, false, true, false] rfl rfl rfl rfl (by kernel_rfl) (by decide) (by decide) (fun K hK => ?_) (fun K hK => ?_)
             ·
              have hc : _ = some (Value.string (rdOf ByteArray.empty keysL q1)) := (Kd.R_celln ByteArray.empty HR.out q1 a1 b15).1
              refine value_ (w1 := ?_) (v := ?_) (by rfl) rfl ?_ ?_
              rotate_left 2
              · go_simp
                constructor
                · rfl
                · rfl
              clear hc HR
              refine hK.out _ _ trivial (fun _ => ?_)
              clear hK K
              refine norm_ (a' := ?_) ?_ ?_
              rotate_left; (show Act.put _ (some 40) _ = _; simp only [Act.put, List.setIfInBounds_toArray, List.set_cons_zero, List.set_cons_succ]; rfl)
              refine one_ (i := 6) (N := (some 42)) #[true, true, true, true, true, true, true, false, true, true, false, true, false] rfl rfl (by kernel_rfl) (by decide) (fun K hK => ?_)
              refine goes_ Try.func18 (by kernel_rfl) rfl #[.pointer (some ⟨g, 0, none⟩), .int .i64 2] (by rfl) rfl rfl (by (try simp only [List.map_toArray, List.map_cons, List.map_nil]); first | done | rfl) ?_
              (with_reducible refine (nx_call2 hL HB.out HT2.out E2.out (by omega) (by omega)).mono ?_)
              rintro e wn ⟨rfl, hi, hk⟩
              refine ⟨_, rfl, ?_⟩
              have HX2 := Aside0.mk (KeepBut.blk hk HX.out HXg.out (by simp))
              clear HX
              have HX := HX2
              clear HX2
              clear HB
              have HB := Aside0.mk hi
              clear hi hk
              refine hK.out _ _ trivial (fun _ => ?_)
              clear hK K
              refine norm_ (a' := ?_) ?_ ?_
              rotate_left; (show Act.put _ (some 42) _ = _; simp only [Act.put, List.setIfInBounds_toArray, List.set_cons_zero, List.set_cons_succ]; rfl)
              refine pure_ (i := 7) (N := (some 43)) (v := ?_) (a' := ?_) #[true, true, true, true, true, true, true, true, true, true, false, true, false] rfl rfl (by kernel_rfl) (fun _ _ _ h => h) (Or.inl ⟨by rfl, ?_⟩) ?_ ?_
              rotate_left; (intro w'; go_simp; try with_reducible rfl); rotate_left; (simp only [Act.put, List.setIfInBounds_toArray, List.set_cons_zero, List.set_cons_succ]; rfl)
              refine pure_ (i := 10) (N := (some 46)) (v := ?_) (a' := ?_) #[true, true, true, true, true, true, true, true, true, true, true, true, false] rfl rfl (by kernel_rfl) (fun _ _ _ h => h) (Or.inl ⟨by rfl, ?_⟩) ?_ ?_
              rotate_left; (intro w'; go_simp; try with_reducible rfl); rotate_left; (simp only [Act.put, List.setIfInBounds_toArray, List.set_cons_zero, List.set_cons_succ]; rfl)
              exact norm_ (by first | (simp only [putAll, Act.put, List.setIfInBounds_toArray, List.set_cons_zero, List.set_cons_succ]; done) | (simp only [putAll, Act.put, List.setIfInBounds_toArray, List.set_cons_zero, List.set_cons_succ]; rfl)) (hJ (gk, ck, x) _ ⟨HB, HX, HXg⟩)
             ·
              refine goes_ Try.func18 (by kernel_rfl) rfl #[.pointer (some ⟨g, 0, none⟩), .int .i64 2] (by rfl) rfl rfl (by (try simp only [List.map_toArray, List.map_cons, List.map_nil]); first | done | rfl) ?_
              (with_reducible refine (nx_call2 hL HB.out HT2.out E2.out (by omega) (by omega)).mono ?_)
              rintro e wn ⟨rfl, hi, hk⟩
              refine ⟨_, rfl, ?_⟩
              have HX2 := Aside0.mk (KeepBut.blk hk HX.out HXg.out (by simp))
              clear HX
              have HX := HX2
              clear HX2
              have HR2 := Aside0.mk (Kd.R_keep HR.out hk (fun _ h => h))
              clear HR
              have HR := HR2
              clear HR2
              clear HB
              have HB := Aside0.mk hi
              clear hi hk
              refine hK.out _ _ trivial (fun _ => ?_)
              clear hK K
              refine norm_ (a' := ?_) ?_ ?_
              rotate_left; (show Act.put _ (some 42) _ = _; simp only [Act.put, List.setIfInBounds_toArray, List.set_cons_zero, List.set_cons_succ]; rfl)
              refine pure_ (i := 7) (N := (some 43)) (v := ?_) (a' := ?_) #[true, true, true, true, false, true, true, true, true, true, false, true, false] rfl rfl (by kernel_rfl) (fun _ _ _ h => h) (Or.inl ⟨by rfl, ?_⟩) ?_ ?_
              rotate_left; (intro w'; go_simp; try with_reducible rfl); rotate_left; (simp only [Act.put, List.setIfInBounds_toArray, List.set_cons_zero, List.set_cons_succ]; rfl)
              refine one_ (i := 4) (N := (some 40)) #[true, true, true, true, true, true, true, true, true, true, false, true, false] rfl rfl (by kernel_rfl) (by decide) (fun K hK => ?_)
              have hc : _ = some (Value.string (rdOf ByteArray.empty keysL q1)) := (Kd.R_celln ByteArray.empty HR.out q1 a1 b15).1
              refine value_ (w1 := ?_) (v := ?_) (by rfl) rfl ?_ ?_
              rotate_left 2
              · go_simp
                constructor
                · rfl
                · rfl
              clear hc HR
              refine hK.out _ _ trivial (fun _ => ?_)
              clear hK K
              refine norm_ (a' := ?_) ?_ ?_
              rotate_left; (show Act.put _ (some 40) _ = _; simp only [Act.put, List.setIfInBounds_toArray, List.set_cons_zero, List.set_cons_succ]; rfl)
              refine pure_ (i := 10) (N := (some 46)) (v := ?_) (a' := ?_) #[true, true, true, true, true, true, true, true, true, true, true, true, false] rfl rfl (by kernel_rfl) (fun _ _ _ h => h) (Or.inl ⟨by rfl, ?_⟩) ?_ ?_
              rotate_left; (intro w'; go_simp; try with_reducible rfl); rotate_left; (simp only [Act.put, List.setIfInBounds_toArray, List.set_cons_zero, List.set_cons_succ]; rfl)
              exact norm_ (by first | (simp only [putAll, Act.put, List.setIfInBounds_toArray, List.set_cons_zero, List.set_cons_succ]; done) | (simp only [putAll, Act.put, List.setIfInBounds_toArray, List.set_cons_zero, List.set_cons_succ]; rfl)) (hJ (gk, ck, x) _ ⟨HB, HX, HXg⟩)
           ·
            refine box_one (cs := zCells) (t := 46) (by rfl) rfl ?_ ?_
            · go_simp
              try rfl
            intro x wn hx hX hb
            have HXg := Aside0.mk (show x ≠ g by rw [hx]; exact HB.out.tp.fresh _ (Nat.le_refl _))
            have HX := Aside0.mk hX
            have HB2 := Aside0.mk ((HB.out.aside (X' := fun k => k = x) (by intro k e; right; rw [e, hx]; exact Nat.le_refl _)).below hb)
            clear HB
            have HB := HB2
            clear HB2
            have HR2 := Aside0.mk (Kd.R_below HR.out hb)
            clear HR
            have HR := HR2
            clear HR2
            clear hx hX hb
            refine hK.out _ _ trivial (fun _ => ?_)
            clear hK K
            refine norm_ (a' := ?_) ?_ ?_
            rotate_left; (show Act.put _ (some 14) _ = _; simp only [Act.put, List.setIfInBounds_toArray, List.set_cons_zero, List.set_cons_succ]; rfl)
            refine one_ (i := 2) (N := (some 38)) #[true, true, true, false, false, true, false, false, true, true, false, true, false] rfl rfl (by kernel_rfl) (by decide) (fun K hK => ?_)
            refine goes_ Try.func18 (by kernel_rfl) rfl #[.pointer (some ⟨g, 0, none⟩), .int .i64 3] (by rfl) rfl rfl (by (try simp only [List.map_toArray, List.map_cons, List.map_nil]); first | done | rfl) ?_
            (with_reducible refine (nx_call2 hL HB.out HT1.out E1.out (by omega) (by omega)).mono ?_)
            rintro e wn ⟨rfl, hi, hk⟩
            refine ⟨_, rfl, ?_⟩
            have HX2 := Aside0.mk (KeepBut.blk hk HX.out HXg.out (by simp))
            clear HX
            have HX := HX2
            clear HX2
            have HR2 := Aside0.mk (Kd.R_keep HR.out hk (fun _ h => h))
            clear HR
            have HR := HR2
            clear HR2
            clear HB
            have HB := Aside0.mk hi
            clear hi hk
            refine hK.out _ _ trivial (fun _ => ?_)
            clear hK K
            refine norm_ (a' := ?_) ?_ ?_
            rotate_left; (show Act.put _ (some 38) _ = _; simp only [Act.put, List.setIfInBounds_toArray, List.set_cons_zero, List.set_cons_succ]; rfl)
            refine pure_ (i := 3) (N := (some 39)) (v := ?_) (a' := ?_) #[true, true, true, true, false, true, false, false, true, true, false, true, false] rfl rfl (by kernel_rfl) (fun _ _ _ h => h) (Or.inl ⟨by rfl, ?_⟩) ?_ ?_
            rotate_left; (intro w'; go_simp; try with_reducible rfl); rotate_left; (simp only [Act.put, List.setIfInBounds_toArray, List.set_cons_zero, List.set_cons_succ]; rfl)
            refine two_ (i := 4) (j := 6) (Ni := (some 40)) (Nj := (some 42)) #[true, true, true, true, true, true, false, false, true, true, false, true, false] #[true, true, true, true, false, true, true, false, true, true, false, true, false] rfl rfl rfl rfl (by kernel_rfl) (by decide) (by decide) (fun K hK => ?_) (fun K hK => ?_)
            ·
             have hc : _ = some (Value.string (rdOf ByteArray.empty keysL q1)) := (Kd.R_celln ByteArray.empty HR.out q1 a1 b15).1
             refine value_ (w1 := ?_) (v := ?_) (by rfl) rfl ?_ ?_
             rotate_left 2
             · go_simp
               constructor
               · rfl
               · rfl
             clear hc HR
             refine hK.out _ _ trivial (fun _ => ?_)
             clear hK K
             refine norm_ (a' := ?_) ?_ ?_
             rotate_left; (show Act.put _ (some 40) _ = _; simp only [Act.put, List.setIfInBounds_toArray, List.set_cons_zero, List.set_cons_succ]; rfl)
             refine one_ (i := 6) (N := (some 42)) #[true, true, true, true, true, true, true, false, true, true, false, true, false] rfl rfl (by kernel_rfl) (by decide) (fun K hK => ?_)
             refine goes_ Try.func18 (by kernel_rfl) rfl #[.pointer (some ⟨g, 0, none⟩), .int .i64 2] (by rfl) rfl rfl (by (try simp only [List.map_toArray, List.map_cons, List.map_nil]); first | done | rfl) ?_
             (with_reducible refine (nx_call2 hL HB.out HT2.out E2.out (by omega) (by omega)).mono ?_)
             rintro e wn ⟨rfl, hi, hk⟩
             refine ⟨_, rfl, ?_⟩
             have HX2 := Aside0.mk (KeepBut.blk hk HX.out HXg.out (by simp))
             clear HX
             have HX := HX2
             clear HX2
             clear HB
             have HB := Aside0.mk hi
             clear hi hk
             refine hK.out _ _ trivial (fun _ => ?_)
             clear hK K
             refine norm_ (a' := ?_) ?_ ?_
             rotate_left; (show Act.put _ (some 42) _ = _; simp only [Act.put, List.setIfInBounds_toArray, List.set_cons_zero, List.set_cons_succ]; rfl)
             refine pure_ (i := 7) (N := (some 43)) (v := ?_) (a' := ?_) #[true, true, true, true, true, true, true, true, true, true, false, true, false] rfl rfl (by kernel_rfl) (fun _ _ _ h => h) (Or.inl ⟨by rfl, ?_⟩) ?_ ?_
             rotate_left; (intro w'; go_simp; try with_reducible rfl); rotate_left; (simp only [Act.put, List.setIfInBounds_toArray, List.set_cons_zero, List.set_cons_succ]; rfl)
             refine pure_ (i := 10) (N := (some 46)) (v := ?_) (a' := ?_) #[true, true, true, true, true, true, true, true, true, true, true, true, false] rfl rfl (by kernel_rfl) (fun _ _ _ h => h) (Or.inl ⟨by rfl, ?_⟩) ?_ ?_
             rotate_left; (intro w'; go_simp; try with_reducible rfl); rotate_left; (simp only [Act.put, List.setIfInBounds_toArray, List.set_cons_zero, List.set_cons_succ]; rfl)
             exact norm_ (by first | (simp only [putAll, Act.put, List.setIfInBounds_toArray, List.set_cons_zero, List.set_cons_succ]; done) | (simp only [putAll, Act.put, List.setIfInBounds_toArray, List.set_cons_zero, List.set_cons_succ]; rfl)) (hJ (gk, ck, x) _ ⟨HB, HX, HXg⟩)
            ·
             refine goes_ Try.func18 (by kernel_rfl) rfl #[.pointer (some ⟨g, 0, none⟩), .int .i64 2] (by rfl) rfl rfl (by (try simp only [List.map_toArray, List.map_cons, List.map_nil]); first | done | rfl) ?_
             (with_reducible refine (nx_call2 hL HB.out HT2.out E2.out (by omega) (by omega)).mono ?_)
             rintro e wn ⟨rfl, hi, hk⟩
             refine ⟨_, rfl, ?_⟩
             have HX2 := Aside0.mk (KeepBut.blk hk HX.out HXg.out (by simp))
             clear HX
             have HX := HX2
             clear HX2
             have HR2 := Aside0.mk (Kd.R_keep HR.out hk (fun _ h => h))
             clear HR
             have HR := HR2
             clear HR2
             clear HB
             have HB := Aside0.mk hi
             clear hi hk
             refine hK.out _ _ trivial (fun _ => ?_)
             clear hK K
             refine norm_ (a' := ?_) ?_ ?_
             rotate_left; (show Act.put _ (some 42) _ = _; simp only [Act.put, List.setIfInBounds_toArray, List.set_cons_zero, List.set_cons_succ]; rfl)
             refine pure_ (i := 7) (N := (some 43)) (v := ?_) (a' := ?_) #[true, true, true, true, false, true, true, true, true, true, false, true, false] rfl rfl (by kernel_rfl) (fun _ _ _ h => h) (Or.inl ⟨by rfl, ?_⟩) ?_ ?_
             rotate_left; (intro w'; go_simp; try with_reducible rfl); rotate_left; (simp only [Act.put, List.setIfInBounds_toArray, List.set_cons_zero, List.set_cons_succ]; rfl)
             refine one_ (i := 4) (N := (some 40)) #[true, true, true, true, true, true, true, true, true, true, false, true, false] rfl rfl (by kernel_rfl) (by decide) (fun K hK => ?_)
             have hc : _ = some (Value.string (rdOf ByteArray.empty keysL q1)) := (Kd.R_celln ByteArray.empty HR.out q1 a1 b15).1
             refine value_ (w1 := ?_) (v := ?_) (by rfl) rfl ?_ ?_
             rotate_left 2
             · go_simp
               constructor
               · rfl
               · rfl
             clear hc HR
             refine hK.out _ _ trivial (fun _ => ?_)
             clear hK K
             refine norm_ (a' := ?_) ?_ ?_
             rotate_left; (show Act.put _ (some 40) _ = _; simp only [Act.put, List.setIfInBounds_toArray, List.set_cons_zero, List.set_cons_succ]; rfl)
             refine pure_ (i := 10) (N := (some 46)) (v := ?_) (a' := ?_) #[true, true, true, true, true, true, true, true, true, true, true, true, false] rfl rfl (by kernel_rfl) (fun _ _ _ h => h) (Or.inl ⟨by rfl, ?_⟩) ?_ ?_
             rotate_left; (intro w'; go_simp; try with_reducible rfl); rotate_left; (simp only [Act.put, List.setIfInBounds_toArray, List.set_cons_zero, List.set_cons_succ]; rfl)
             exact norm_ (by first | (simp only [putAll, Act.put, List.setIfInBounds_toArray, List.set_cons_zero, List.set_cons_succ]; done) | (simp only [putAll, Act.put, List.setIfInBounds_toArray, List.set_cons_zero, List.set_cons_succ]; rfl)) (hJ (gk, ck, x) _ ⟨HB, HX, HXg⟩)
          ·
           refine box_one (cs := zCells) (t := 46) (by rfl) rfl ?_ ?_
           · go_simp
             try rfl
           intro x wn hx hX hb
           have HXg := Aside0.mk (show x ≠ g by rw [hx]; exact HB.out.tp.fresh _ (Nat.le_refl _))
           have HX := Aside0.mk hX
           have HB2 := Aside0.mk ((HB.out.aside (X' := fun k => k = x) (by intro k e; right; rw [e, hx]; exact Nat.le_refl _)).below hb)
           clear HB
           have HB := HB2
           clear HB2
           clear hx hX hb
           refine hK.out _ _ trivial (fun _ => ?_)
           clear hK K
           refine norm_ (a' := ?_) ?_ ?_
           rotate_left; (show Act.put _ (some 14) _ = _; simp only [Act.put, List.setIfInBounds_toArray, List.set_cons_zero, List.set_cons_succ]; rfl)
           refine one_ (i := 0) (N := (some 36)) #[true, true, false, false, false, true, false, false, true, true, false, true, false] rfl rfl (by kernel_rfl) (by decide) (fun K hK => ?_)
           refine goes_ Try.func33 (by kernel_rfl) rfl #[] (by rfl) rfl rfl (by first | rfl | simp) ?_
           (with_reducible refine (keys_call hL HB.out).mono ?_)
           rintro e wn ⟨gk, ck, rfl, hR, hi, hb⟩
           refine ⟨_, rfl, ?_⟩
           have HX2 := Aside0.mk ((hb.block _ (blk_lt HX.out)).trans HX.out)
           clear HX
           have HX := HX2
           clear HX2
           clear HB
           have HB := Aside0.mk hi
           have HR := Aside0.mk hR
           clear hi hb hR
           refine hK.out _ _ trivial (fun _ => ?_)
           clear hK K
           refine norm_ (a' := ?_) ?_ ?_
           rotate_left; (show Act.put _ (some 36) _ = _; simp only [Act.put, List.setIfInBounds_toArray, List.set_cons_zero, List.set_cons_succ]; rfl)
           refine one_ (i := 2) (N := (some 38)) #[true, true, true, false, false, true, false, false, true, true, false, true, false] rfl rfl (by kernel_rfl) (by decide) (fun K hK => ?_)
           refine goes_ Try.func18 (by kernel_rfl) rfl #[.pointer (some ⟨g, 0, none⟩), .int .i64 3] (by rfl) rfl rfl (by (try simp only [List.map_toArray, List.map_cons, List.map_nil]); first | done | rfl) ?_
           (with_reducible refine (nx_call2 hL HB.out HT1.out E1.out (by omega) (by omega)).mono ?_)
           rintro e wn ⟨rfl, hi, hk⟩
           refine ⟨_, rfl, ?_⟩
           have HX2 := Aside0.mk (KeepBut.blk hk HX.out HXg.out (by simp))
           clear HX
           have HX := HX2
           clear HX2
           have HR2 := Aside0.mk (Kd.R_keep HR.out hk (fun _ h => h))
           clear HR
           have HR := HR2
           clear HR2
           clear HB
           have HB := Aside0.mk hi
           clear hi hk
           refine hK.out _ _ trivial (fun _ => ?_)
           clear hK K
           refine norm_ (a' := ?_) ?_ ?_
           rotate_left; (show Act.put _ (some 38) _ = _; simp only [Act.put, List.setIfInBounds_toArray, List.set_cons_zero, List.set_cons_succ]; rfl)
           refine pure_ (i := 3) (N := (some 39)) (v := ?_) (a' := ?_) #[true, true, true, true, false, true, false, false, true, true, false, true, false] rfl rfl (by kernel_rfl) (fun _ _ _ h => h) (Or.inl ⟨by rfl, ?_⟩) ?_ ?_
           rotate_left; (intro w'; go_simp; try with_reducible rfl); rotate_left; (simp only [Act.put, List.setIfInBounds_toArray, List.set_cons_zero, List.set_cons_succ]; rfl)
           refine two_ (i := 4) (j := 6) (Ni := (some 40)) (Nj := (some 42)) #[true, true, true, true, true, true, false, false, true, true, false, true, false] #[true, true, true, true, false, true, true, false, true, true, false, true, false] rfl rfl rfl rfl (by kernel_rfl) (by decide) (by decide) (fun K hK => ?_) (fun K hK => ?_)
           ·
            have hc : _ = some (Value.string (rdOf ByteArray.empty keysL q1)) := (Kd.R_celln ByteArray.empty HR.out q1 a1 b15).1
            refine value_ (w1 := ?_) (v := ?_) (by rfl) rfl ?_ ?_
            rotate_left 2
            · go_simp
              constructor
              · rfl
              · rfl
            clear hc HR
            refine hK.out _ _ trivial (fun _ => ?_)
            clear hK K
            refine norm_ (a' := ?_) ?_ ?_
            rotate_left; (show Act.put _ (some 40) _ = _; simp only [Act.put, List.setIfInBounds_toArray, List.set_cons_zero, List.set_cons_succ]; rfl)
            refine one_ (i := 6) (N := (some 42)) #[true, true, true, true, true, true, true, false, true, true, false, true, false] rfl rfl (by kernel_rfl) (by decide) (fun K hK => ?_)
            refine goes_ Try.func18 (by kernel_rfl) rfl #[.pointer (some ⟨g, 0, none⟩), .int .i64 2] (by rfl) rfl rfl (by (try simp only [List.map_toArray, List.map_cons, List.map_nil]); first | done | rfl) ?_
            (with_reducible refine (nx_call2 hL HB.out HT2.out E2.out (by omega) (by omega)).mono ?_)
            rintro e wn ⟨rfl, hi, hk⟩
            refine ⟨_, rfl, ?_⟩
            have HX2 := Aside0.mk (KeepBut.blk hk HX.out HXg.out (by simp))
            clear HX
            have HX := HX2
            clear HX2
            clear HB
            have HB := Aside0.mk hi
            clear hi hk
            refine hK.out _ _ trivial (fun _ => ?_)
            clear hK K
            refine norm_ (a' := ?_) ?_ ?_
            rotate_left; (show Act.put _ (some 42) _ = _; simp only [Act.put, List.setIfInBounds_toArray, List.set_cons_zero, List.set_cons_succ]; rfl)
            refine pure_ (i := 7) (N := (some 43)) (v := ?_) (a' := ?_) #[true, true, true, true, true, true, true, true, true, true, false, true, false] rfl rfl (by kernel_rfl) (fun _ _ _ h => h) (Or.inl ⟨by rfl, ?_⟩) ?_ ?_
            rotate_left; (intro w'; go_simp; try with_reducible rfl); rotate_left; (simp only [Act.put, List.setIfInBounds_toArray, List.set_cons_zero, List.set_cons_succ]; rfl)
            refine pure_ (i := 10) (N := (some 46)) (v := ?_) (a' := ?_) #[true, true, true, true, true, true, true, true, true, true, true, true, false] rfl rfl (by kernel_rfl) (fun _ _ _ h => h) (Or.inl ⟨by rfl, ?_⟩) ?_ ?_
            rotate_left; (intro w'; go_simp; try with_reducible rfl); rotate_left; (simp only [Act.put, List.setIfInBounds_toArray, List.set_cons_zero, List.set_cons_succ]; rfl)
            exact norm_ (by first | (simp only [putAll, Act.put, List.setIfInBounds_toArray, List.set_cons_zero, List.set_cons_succ]; done) | (simp only [putAll, Act.put, List.setIfInBounds_toArray, List.set_cons_zero, List.set_cons_succ]; rfl)) (hJ (gk, ck, x) _ ⟨HB, HX, HXg⟩)
           ·
            refine goes_ Try.func18 (by kernel_rfl) rfl #[.pointer (some ⟨g, 0, none⟩), .int .i64 2] (by rfl) rfl rfl (by (try simp only [List.map_toArray, List.map_cons, List.map_nil]); first | done | rfl) ?_
            (with_reducible refine (nx_call2 hL HB.out HT2.out E2.out (by omega) (by omega)).mono ?_)
            rintro e wn ⟨rfl, hi, hk⟩
            refine ⟨_, rfl, ?_⟩
            have HX2 := Aside0.mk (KeepBut.blk hk HX.out HXg.out (by simp))
            clear HX
            have HX := HX2
            clear HX2
            have HR2 := Aside0.mk (Kd.R_keep HR.out hk (fun _ h => h))
            clear HR
            have HR := HR2
            clear HR2
            clear HB
            have HB := Aside0.mk hi
            clear hi hk
            refine hK.out _ _ trivial (fun _ => ?_)
            clear hK K
            refine norm_ (a' := ?_) ?_ ?_
            rotate_left; (show Act.put _ (some 42) _ = _; simp only [Act.put, List.setIfInBounds_toArray, List.set_cons_zero, List.set_cons_succ]; rfl)
            refine pure_ (i := 7) (N := (some 43)) (v := ?_) (a' := ?_) #[true, true, true, true, false, true, true, true, true, true, false, true, false] rfl rfl (by kernel_rfl) (fun _ _ _ h => h) (Or.inl ⟨by rfl, ?_⟩) ?_ ?_
            rotate_left; (intro w'; go_simp; try with_reducible rfl); rotate_left; (simp only [Act.put, List.setIfInBounds_toArray, List.set_cons_zero, List.set_cons_succ]; rfl)
            refine one_ (i := 4) (N := (some 40)) #[true, true, true, true, true, true, true, true, true, true, false, true, false] rfl rfl (by kernel_rfl) (by decide) (fun K hK => ?_)
            have hc : _ = some (Value.string (rdOf ByteArray.empty keysL q1)) := (Kd.R_celln ByteArray.empty HR.out q1 a1 b15).1
            refine value_ (w1 := ?_) (v := ?_) (by rfl) rfl ?_ ?_
            rotate_left 2
            · go_simp
              constructor
              · rfl
              · rfl
            clear hc HR
            refine hK.out _ _ trivial (fun _ => ?_)
            clear hK K
            refine norm_ (a' := ?_) ?_ ?_
            rotate_left; (show Act.put _ (some 40) _ = _; simp only [Act.put, List.setIfInBounds_toArray, List.set_cons_zero, List.set_cons_succ]; rfl)
            refine pure_ (i := 10) (N := (some 46)) (v := ?_) (a' := ?_) #[true, true, true, true, true, true, true, true, true, true, true, true, false] rfl rfl (by kernel_rfl) (fun _ _ _ h => h) (Or.inl ⟨by rfl, ?_⟩) ?_ ?_
            rotate_left; (intro w'; go_simp; try with_reducible rfl); rotate_left; (simp only [Act.put, List.setIfInBounds_toArray, List.set_cons_zero, List.set_cons_succ]; rfl)
            exact norm_ (by first | (simp only [putAll, Act.put, List.setIfInBounds_toArray, List.set_cons_zero, List.set_cons_succ]; done) | (simp only [putAll, Act.put, List.setIfInBounds_toArray, List.set_cons_zero, List.set_cons_succ]; rfl)) (hJ (gk, ck, x) _ ⟨HB, HX, HXg⟩)
        rintro ⟨gk, ck, x⟩ wj ⟨HB, HX, HXg⟩
        refine norm_ (a' := ?_) ?_ ?_
        rotate_left
        · simp only [putAll, Act.put, List.setIfInBounds_toArray, List.set_cons_zero, List.set_cons_succ]
          rfl
        refine one_ (i := 12) (N := none) #[true, true, true, true, true, true, true, true, true, true, true, true, true] rfl rfl (by kernel_rfl) (by decide) (fun K hK => ?_)
        refine store_one (x := x) (o := 0) (t := 46) (p := .tmp 14) (v := .tmp 46) (u := .agg #[.string (rdOf ByteArray.empty keysL q1), .string ⟨#[]⟩, .bool (q2 == 0), .int .i64 dom, .int .i64 up, .bool false, .string ⟨#[]⟩, .int .i64 0, .int .i64 0, .float .f64 0, .bool false, .bool false, .slice none 0 0]) (seg := [.string (rdOf ByteArray.empty keysL q1), .string ⟨#[]⟩, .bool (q2 == 0), .int .i64 dom, .int .i64 up, .bool false, .string ⟨#[]⟩, .int .i64 0, .int .i64 0, .float .f64 0, .bool false, .bool false, .slice none 0 0]) (by rfl) rfl rfl rfl rfl HX.out rfl (by kernel_rfl) (show 0 + 13 ≤ 13 by decide) (by intro q hq; simp only [List.mem_cons, List.not_mem_nil, or_false] at hq; rcases hq with rfl | rfl | rfl | rfl | rfl | rfl | rfl | rfl | rfl | rfl | rfl | rfl | rfl <;> rfl) ?_
        refine hK.out _ _ trivial (fun _ => ?_)
        clear hK K
        refine done_ (by kernel_rfl) ?_
        have HX2 := Aside0.mk (blk_cells (o := 0) (seg := [.string (rdOf ByteArray.empty keysL q1), .string ⟨#[]⟩, .bool (q2 == 0), .int .i64 dom, .int .i64 up, .bool false, .string ⟨#[]⟩, .int .i64 0, .int .i64 0, .float .f64 0, .bool false, .bool false, .slice none 0 0]) (cur' := #[.string (rdOf ByteArray.empty keysL q1), .string ⟨#[]⟩, .bool (q2 == 0), .int .i64 dom, .int .i64 up, .bool false, .string ⟨#[]⟩, .int .i64 0, .int .i64 0, .float .f64 0, .bool false, .bool false, .slice none 0 0]) HX.out (show 0 + 13 ≤ 13 by decide) rfl)
        have HB2 := Aside0.mk (HB.out.cells (o := 0) (x := x) rfl HXg.out [.string (rdOf ByteArray.empty keysL q1), .string ⟨#[]⟩, .bool (q2 == 0), .int .i64 dom, .int .i64 up, .bool false, .string ⟨#[]⟩, .int .i64 0, .int .i64 0, .float .f64 0, .bool false, .bool false, .slice none 0 0])
        clear HX HB
        generalize wj.setCells x 0 [.string (rdOf ByteArray.empty keysL q1), .string ⟨#[]⟩, .bool (q2 == 0), .int .i64 dom, .int .i64 up, .bool false, .string ⟨#[]⟩, .int .i64 0, .int .i64 0, .float .f64 0, .bool false, .bool false, .slice none 0 0] = ws at *
        have z2 : ws.cell? ⟨x, 2, none⟩ = some (.bool (q2 == 0)) := (blk_cell HX2.out 2).trans rfl
        go_upto_if 49 with fail
        go_cut [] (fun wc => ∃ (b : BR) (p4 : Int), Aside0 (mkB L dom up p1 = (b, p4)) ∧ Aside0 (wc.heap[x]? = some (.cells (cellsM b) 46 (0, 0))) ∧ Aside0 (BI w0 w wc g cb L p4 vD vB (.slice A bs1.length c) (.slice Ao out1.length co) ok (fun k => k = x) bs1 out1))
        case first =>
          cases hq : (q2 == 0) with
          | true =>
            rw [hq] at HX2 z2
            go_wp2
            go_meet
            case rel => exact ⟨⟨rdOf ByteArray.empty keysL q1, ⟨#[]⟩, true, dom, up, false, zRU, []⟩, p3, ⟨by unfold mkB; rw [E1.out, E2.out]; dsimp only; rw [if_pos hq]⟩, HX2, HB2⟩
          | false =>
            rw [hq] at HX2 z2
            clear z2
            obtain ⟨eo, ao, tso⟩ := of_f hL HT3.out (l := valsL) (by decide) (by decide)
            clear eo ao
            have HTo := Aside0.mk tso
            obtain ⟨⟨so, p4⟩, Eo⟩ : ∃ q, q = ofB L p3 valsL := ⟨_, rfl⟩
            have HEo := Aside0.mk Eo
            clear tso Eo
            go_wp2_with (first | ((with_reducible refine gate_callee (f := 23) rfl ?_); refine goesL_ (some 51) rfl rfl Try.func23 (by kernel_rfl) rfl #[] rfl (by first | rfl | simp) ?_; (with_reducible refine (vals_call hL HB2.out).mono ?_); rintro e w8 ⟨A8, c8, rfl, hc8, hC8, hA8, hi, hk⟩; refine ⟨_, rfl, ?_⟩; have HX8 := Aside0.mk (KeepBut.blk hk HX2.out HXg.out (by simp)); have HB8 := Aside0.mk hi; have HC8 := Aside0.mk hc8; have HD8 := Aside0.mk hC8; have HA8 := Aside0.mk hA8; clear hc8 hC8 hA8 hi hk HX2 HB2) | ((with_reducible refine gate_callee (f := 24) rfl ?_); refine goesL_ (some 52) rfl rfl Try.func24 (by kernel_rfl) rfl #[.pointer (some ⟨g, 0, none⟩), .slice A8 valsL.length c8] rfl (by (try simp only [List.map_toArray, List.map_cons, List.map_nil]); first | done | rfl) ?_; (with_reducible refine (of_call hL HB8.out HT3.out HC8.out HD8.out HA8.out).mono ?_); rw [← HEo.out]; rintro e w9 ⟨rfl, hi, hk⟩; refine ⟨_, rfl, ?_⟩; have HX9 := Aside0.mk (KeepBut.blk hk HX8.out HXg.out (by simp)); have HB9 := Aside0.mk hi; clear hi hk HX8 HB8; have z1 : w9.cell? ⟨x, 1, none⟩ = some (.string ⟨#[]⟩) := (blk_cell HX9.out 1).trans rfl; have f1 := blk_frozen HX9.out 1))
            go_meet
            case rel => exact ⟨⟨rdOf ByteArray.empty keysL q1, so, false, dom, up, false, zRU, []⟩, p4, ⟨by unfold mkB; rw [E1.out, E2.out]; dsimp only; rw [if_neg (by rw [hq]; simp), ← HEo.out]⟩, ⟨blk_put HX9.out 1 _ rfl⟩, ⟨HB9.out.cell rfl HXg.out _⟩⟩
        case rest =>
          obtain ⟨b, p4, HM, HX, HB⟩ := hcut
          obtain ⟨hbk, tb⟩ := mkB_ok hL dom up HT1.out
          rw [HM.out] at hbk tb
          have HBK := Aside0.mk hbk
          have HTB := Aside0.mk tb
          clear hbk tb
          go_wp2
          go_loopw [15, 16] (fun mt i wr => ∃ kk : Nat, kk ≤ out1.length ∧ i = .int .i64 kk ∧ mt = .bool ((out1.take kk).any fun j => twinB (br bs1 j) b) ∧ Aside0 (wr.heap[x]? = some (.cells (cellsM b) 46 (0, 0))) ∧ Aside0 (BI w0 w wr g cb L p4 vD vB (.slice A bs1.length c) (.slice Ao out1.length co) ok (fun k => k = x) bs1 out1)) (fun _ i _ => out1.length - (intOf i).toNat)
          case atStart => exact ⟨0, Nat.zero_le _, rfl, rfl, HX, HB⟩
          case round =>
            obtain ⟨kk, hkk, rfl, rfl, HX7, HB7⟩ := hrel
            clear HX HB
            have g1 := HB7.out.c1
            have HMX := Aside0.mk (Kd.C_max (Kd.R_reads' HB7.out.ro).2.2)
            by_cases hq : kk < out1.length
            · have dq : decide (kk < out1.length) = true := decide_eq_true hq
              obtain ⟨ad, ea, qk⟩ := at_int (Kd.R_reads' HB7.out.ro).2.2 (kk : Int) (by omega) (by omega)
              obtain rfl := ea
              have ej : rdOf 0 out1 (kk : Int) = out1.getD kk 0 := by unfold rdOf; rw [Int.toNat_natCast]
              rw [ej, Int.toNat_natCast] at qk
              have hjx := HO.out.1 (out1.getD kk 0) (by rw [List.getD_eq_getElem?_getD, List.getElem?_eq_getElem hq]; exact List.getElem_mem _)
              clear ej
              generalize hjj : out1.getD kk 0 = jx at *
              have HJJ := Aside0.mk hjj
              obtain ⟨hj0, hj1⟩ := hjx
              clear hjj
              obtain ⟨adb, XA, xc, eb, z0, z1, z2, z3, z4, z5, z6, z7, z8, z9, z10, z11, z12, _, _⟩ := at_T46 (Kd.R_reads' HB7.out.rb).2.2 jx hj0 hj1
              obtain rfl := eb
              rw [br_rd] at z0 z1 z2 z3 z4 z5 z6 z7 z8 z9 z10 z11 z12
              generalize hxx : br bs1 jx = xx at *
              have HXX := Aside0.mk hxx
              clear hxx
              have HB8 := Aside0.mk (HB7.out.alloc (.cells #[.string xx.f0, .string xx.f1, .bool xx.f2, .int .i64 xx.f3, .int .i64 xx.f4, .bool xx.f5, .string xx.f6.f0, .int .i64 xx.f6.f1, .int .i64 xx.f6.f2, .float .f64 xx.f6.f3, .bool xx.f6.f4, .bool xx.f6.f5, .slice XA xx.f7.length xc] 46)).drew
              have HX8 := Aside0.mk (show (wr.alloc (.cells #[.string xx.f0, .string xx.f1, .bool xx.f2, .int .i64 xx.f3, .int .i64 xx.f4, .bool xx.f5, .string xx.f6.f0, .int .i64 xx.f6.f1, .int .i64 xx.f6.f2, .float .f64 xx.f6.f3, .bool xx.f6.f4, .bool xx.f6.f5, .slice XA xx.f7.length xc] 46)).drew.heap[x]? = _ from (Below.heap_alloc _ _ _ (blk_lt HX7.out)).trans HX7.out)
              have HY8 := Aside0.mk (show (wr.alloc (.cells #[.string xx.f0, .string xx.f1, .bool xx.f2, .int .i64 xx.f3, .int .i64 xx.f4, .bool xx.f5, .string xx.f6.f0, .int .i64 xx.f6.f1, .int .i64 xx.f6.f2, .float .f64 xx.f6.f3, .bool xx.f6.f4, .bool xx.f6.f5, .slice XA xx.f7.length xc] 46)).drew.heap[wr.heap.size]? = _ from blk_new wr (.cells #[.string xx.f0, .string xx.f1, .bool xx.f2, .int .i64 xx.f3, .int .i64 xx.f4, .bool xx.f5, .string xx.f6.f0, .int .i64 xx.f6.f1, .int .i64 xx.f6.f2, .float .f64 xx.f6.f3, .bool xx.f6.f4, .bool xx.f6.f5, .slice XA xx.f7.length xc] 46))
              go_wp2
              refine start_ (n := 12) (S := fun w' => w'.cell? ⟨cb, 1, none⟩ = some (.slice (some adb) bs1.length c) ∧ w'.cell? (ad.add kk) = some (.int .i64 jx) ∧ w'.cell? (adb.add (jx.toNat * 13)) = some (.string xx.f0) ∧ w'.cell? ⟨(adb.add (jx.toNat * 13)).block, (adb.add (jx.toNat * 13)).off + 1, none⟩ = some (.string xx.f1) ∧ w'.cell? ⟨(adb.add (jx.toNat * 13)).block, (adb.add (jx.toNat * 13)).off + 2, none⟩ = some (.bool xx.f2) ∧ w'.cell? ⟨(adb.add (jx.toNat * 13)).block, (adb.add (jx.toNat * 13)).off + 3, none⟩ = some (.int .i64 xx.f3) ∧ w'.cell? ⟨(adb.add (jx.toNat * 13)).block, (adb.add (jx.toNat * 13)).off + 4, none⟩ = some (.int .i64 xx.f4) ∧ w'.cell? ⟨(adb.add (jx.toNat * 13)).block, (adb.add (jx.toNat * 13)).off + 5, none⟩ = some (.bool xx.f5) ∧ w'.cell? ⟨(adb.add (jx.toNat * 13)).block, (adb.add (jx.toNat * 13)).off + 6, none⟩ = some (.string xx.f6.f0) ∧ w'.cell? ⟨(adb.add (jx.toNat * 13)).block, (adb.add (jx.toNat * 13)).off + 7, none⟩ = some (.int .i64 xx.f6.f1) ∧ w'.cell? ⟨(adb.add (jx.toNat * 13)).block, (adb.add (jx.toNat * 13)).off + 8, none⟩ = some (.int .i64 xx.f6.f2) ∧ w'.cell? ⟨(adb.add (jx.toNat * 13)).block, (adb.add (jx.toNat * 13)).off + 9, none⟩ = some (.float .f64 xx.f6.f3) ∧ w'.cell? ⟨(adb.add (jx.toNat * 13)).block, (adb.add (jx.toNat * 13)).off + 10, none⟩ = some (.bool xx.f6.f4) ∧ w'.cell? ⟨(adb.add (jx.toNat * 13)).block, (adb.add (jx.toNat * 13)).off + 11, none⟩ = some (.bool xx.f6.f5) ∧ w'.cell? ⟨(adb.add (jx.toNat * 13)).block, (adb.add (jx.toNat * 13)).off + 12, none⟩ = some (.slice XA xx.f7.length xc)) (ds := [11]) #[false, false, false, false, false, false, false, false, false, false, false, false] (by kernel_rfl) rfl rfl (⟨g1, qk, z0, z1, z2, z3, z4, z5, z6, z7, z8, z9, z10, z11, z12⟩) (fun hHeld => ?_)
              refine pure_ (i := 0) (N := (some 60)) (v := ?_) (a' := ?_) #[true, false, false, false, false, false, false, false, false, false, false, false] rfl rfl (by kernel_rfl) (fun _ _ _ h => h) (Or.inl ⟨by rfl, ?_⟩) ?_ ?_
              rotate_left
              · intro w'
                go_simp
                try with_reducible rfl
              rotate_left
              · simp only [Act.put, List.setIfInBounds_toArray, List.set_cons_zero, List.set_cons_succ, i64_w, i32_w]
                rfl
              refine pure_ (i := 1) (N := (some 61)) (v := ?_) (a' := ?_) #[true, true, false, false, false, false, false, false, false, false, false, false] rfl rfl (by kernel_rfl) (fun _ _ _ h => h) (Or.inl ⟨by rfl, ?_⟩) ?_ ?_
              rotate_left
              · intro w'
                go_simp
                try with_reducible rfl
              rotate_left
              · simp only [Act.put, List.setIfInBounds_toArray, List.set_cons_zero, List.set_cons_succ, i64_w, i32_w]
                rfl
              refine pure_ (i := 2) (N := (some 62)) (v := ?_) (a' := ?_) #[true, true, true, false, false, false, false, false, false, false, false, false] rfl rfl (by kernel_rfl) (fun _ _ _ h => h) (Or.inl ⟨by rfl, ?_⟩) ?_ ?_
              rotate_left
              · intro w'
                go_simp
                try with_reducible rfl
              rotate_left
              · simp only [Act.put, List.setIfInBounds_toArray, List.set_cons_zero, List.set_cons_succ, i64_w, i32_w]
                rfl
              refine pure_ (i := 4) (N := (some 64)) (v := ?_) (a' := ?_) #[true, true, true, false, true, false, false, false, false, false, false, false] rfl rfl (by kernel_rfl) (fun _ _ _ h => h) (Or.inl ⟨by rfl, ?_⟩) ?_ ?_
              rotate_left
              · intro w'
                go_simp
                try with_reducible rfl
              rotate_left
              · simp only [Act.put, List.setIfInBounds_toArray, List.set_cons_zero, List.set_cons_succ, i64_w, i32_w]
                rfl
              refine pure_ (i := 5) (N := (some 65)) (v := ?_) (a' := ?_) #[true, true, true, false, true, true, false, false, false, false, false, false] rfl rfl (by kernel_rfl) (fun _ _ _ h => h) (Or.inl ⟨by rfl, ?_⟩) ?_ ?_
              rotate_left
              · intro w'
                go_simp
                try with_reducible rfl
              rotate_left
              · simp only [Act.put, List.setIfInBounds_toArray, List.set_cons_zero, List.set_cons_succ, i64_w, i32_w]
                rfl
              refine pure_ (i := 6) (N := (some 66)) (v := ?_) (a' := ?_) #[true, true, true, false, true, true, true, false, false, false, false, false] rfl rfl (by kernel_rfl) (fun _ _ _ h => h) (Or.inl ⟨by rfl, ?_⟩) ?_ ?_
              rotate_left
              · intro w'
                go_simp
                try with_reducible rfl
              rotate_left
              · simp only [Act.put, List.setIfInBounds_toArray, List.set_cons_zero, List.set_cons_succ, i64_w, i32_w]
                rfl
              refine take_ (i := 3) (N := (some 63)) (v := ?_) (a' := ?_) #[true, true, true, true, true, true, true, false, false, false, false, false] rfl rfl (by kernel_rfl) (fun _ _ _ h => h) (Or.inl ⟨by rfl, ?_⟩) hHeld ?_ ?_
              rotate_left
              · intro w' s0
                obtain ⟨s0, s1, s2, s3, s4, s5, s6, s7, s8, s9, s10, s11, s12, s13, s14⟩ := s0
                go_simp
                try with_reducible rfl
              rotate_left
              · simp only [Act.put, List.setIfInBounds_toArray, List.set_cons_zero, List.set_cons_succ, i64_w, i32_w]
                rfl
              refine take_ (i := 7) (N := (some 67)) (v := ?_) (a' := ?_) #[true, true, true, true, true, true, true, true, false, false, false, false] rfl rfl (by kernel_rfl) (fun _ _ _ h => h) (Or.inl ⟨by rfl, ?_⟩) hHeld ?_ ?_
              rotate_left
              · intro w' s0
                obtain ⟨s0, s1, s2, s3, s4, s5, s6, s7, s8, s9, s10, s11, s12, s13, s14⟩ := s0
                go_simp
                try with_reducible rfl
              rotate_left
              · simp only [Act.put, List.setIfInBounds_toArray, List.set_cons_zero, List.set_cons_succ, i64_w, i32_w]
                rfl
              refine pure_ (i := 8) (N := (some 68)) (v := ?_) (a' := ?_) #[true, true, true, true, true, true, true, true, true, false, false, false] rfl rfl (by kernel_rfl) (fun _ _ _ h => h) (Or.inl ⟨by rfl, ?_⟩) ?_ ?_
              rotate_left
              · intro w'
                go_simp
                try with_reducible rfl
              rotate_left
              · simp only [Act.put, List.setIfInBounds_toArray, List.set_cons_zero, List.set_cons_succ, i64_w, i32_w]
                rfl
              refine take_ (i := 9) (N := (some 69)) (v := ?_) (a' := ?_) #[true, true, true, true, true, true, true, true, true, true, false, false] rfl rfl (by kernel_rfl) (fun _ _ _ h => h) (Or.inl ⟨by rfl, ?_⟩) hHeld ?_ ?_
              rotate_left
              · intro w' s0
                obtain ⟨s0, s1, s2, s3, s4, s5, s6, s7, s8, s9, s10, s11, s12, s13, s14⟩ := s0
                go_simp
                try with_reducible rfl
              rotate_left
              · simp only [Act.put, List.setIfInBounds_toArray, List.set_cons_zero, List.set_cons_succ, i64_w, i32_w]
                rfl
              refine one_ (i := 10) (N := (some 17)) #[true, true, true, true, true, true, true, true, true, true, true, false] rfl rfl (by kernel_rfl) (by decide) (fun K hK => ?_)
              refine value_ (w1 := ?_) (v := ?_) (by rfl) rfl ?_ ?_
              rotate_left 2
              · go_simp
                constructor
                · rfl
                · rfl
              refine hK.out _ _ (by
                obtain ⟨s0, s1, s2, s3, s4, s5, s6, s7, s8, s9, s10, s11, s12, s13, s14⟩ := hHeld
                exact ⟨pw_cell_below (below_alloc (Below.refl _ _) _) s0, pw_cell_below (below_alloc (Below.refl _ _) _) s1, pw_cell_below (below_alloc (Below.refl _ _) _) s2, pw_cell_below (below_alloc (Below.refl _ _) _) s3, pw_cell_below (below_alloc (Below.refl _ _) _) s4, pw_cell_below (below_alloc (Below.refl _ _) _) s5, pw_cell_below (below_alloc (Below.refl _ _) _) s6, pw_cell_below (below_alloc (Below.refl _ _) _) s7, pw_cell_below (below_alloc (Below.refl _ _) _) s8, pw_cell_below (below_alloc (Below.refl _ _) _) s9, pw_cell_below (below_alloc (Below.refl _ _) _) s10, pw_cell_below (below_alloc (Below.refl _ _) _) s11, pw_cell_below (below_alloc (Below.refl _ _) _) s12, pw_cell_below (below_alloc (Below.refl _ _) _) s13, pw_cell_below (below_alloc (Below.refl _ _) _) s14⟩) (fun hHeld => ?_)
              clear hK K
              refine norm_ (a' := ?_) ?_ ?_
              rotate_left
              · show Act.put _ (some 17) _ = _
                simp only [Act.put, List.setIfInBounds_toArray, List.set_cons_zero, List.set_cons_succ, i64_w, i32_w]
                rfl
              refine last_ (i := 11) (N := none) #[true, true, true, true, true, true, true, true, true, true, true, true] rfl rfl (by kernel_rfl) (by decide) (fun K hK => ?_)
              refine skip_ (w1 := ?_) (by rfl) rfl ?_ ?_
              rotate_left
              · go_simp
                rfl
              refine hK.out _ _ ?_
              clear hK K
              refine done_ (by kernel_rfl) ?_
              generalize hyb : wr.heap.size = yb at *
              generalize hW8 : (wr.alloc (.cells #[.string xx.f0, .string xx.f1, .bool xx.f2, .int .i64 xx.f3, .int .i64 xx.f4, .bool xx.f5, .string xx.f6.f0, .int .i64 xx.f6.f1, .int .i64 xx.f6.f2, .float .f64 xx.f6.f3, .bool xx.f6.f4, .bool xx.f6.f5, .slice XA xx.f7.length xc] 46)).drew = W8 at *
              clear z0 z1 z2 z3 z4 z5 z6 z7 z8 z9 z10 z11 z12 qk g1 hyb hW8
              have x0 : W8.cell? ⟨x, 0, none⟩ = some (.string b.f0) := (blk_cell HX8.out 0).trans rfl
              have x1 : W8.cell? ⟨x, 1, none⟩ = some (.string b.f1) := (blk_cell HX8.out 1).trans rfl
              have x2 : W8.cell? ⟨x, 2, none⟩ = some (.bool b.f2) := (blk_cell HX8.out 2).trans rfl
              have y0 : W8.cell? ⟨yb, 0, none⟩ = some (.string xx.f0) := (blk_cell HY8.out 0).trans rfl
              have y1 : W8.cell? ⟨yb, 1, none⟩ = some (.string xx.f1) := (blk_cell HY8.out 1).trans rfl
              have y2 : W8.cell? ⟨yb, 2, none⟩ = some (.bool xx.f2) := (blk_cell HY8.out 2).trans rfl
              have EW := Aside0.mk (wrap_succ hq HMX.out)
              have HMS := Aside0.mk (show ((out1.take (kk + 1)).any fun j => twinB (br bs1 j) b) = (((out1.take kk).any fun j => twinB (br bs1 j) b) || twinB xx b) by rw [any_snoc hq, HJJ.out, HXX.out])
              generalize ((out1.take kk).any fun j => twinB (br bs1 j) b) = mt at *
              cases mt with
              | true =>
                go_wp2
                go_roundw
                case rel => exact ⟨kk + 1, by omega, by rw [EW.out], by rw [HMS.out]; rfl, HX8, HB8⟩
                case measure => exact meas_ok hq (by rw [EW.out])
              | false =>
                rw [Bool.false_or] at HMS
                have HTV := Aside0.mk (show twinB xx b = (decide (xx.f0.toList = b.f0.toList) && decide (xx.f1.toList = b.f1.toList) && (xx.f2 == b.f2)) from rfl)
                by_cases e0 : xx.f0.toList = b.f0.toList
                · have f0 : (xx.f0.toList == b.f0.toList) = true := by rw [e0]; exact beq_self_eq_true _
                  rw [decide_eq_true e0, Bool.true_and] at HTV
                  by_cases e2 : xx.f2 = b.f2
                  · have f2 : (xx.f2 == b.f2) = true := by rw [e2]; exact beq_self_eq_true _
                    rw [f2, Bool.and_true] at HTV
                    by_cases e1 : xx.f1.toList = b.f1.toList
                    · have f1 : (xx.f1.toList == b.f1.toList) = true := by rw [e1]; exact beq_self_eq_true _
                      rw [decide_eq_true e1] at HTV
                      clear e0 e1 e2
                      go_wp2
                      go_roundw
                      case rel => exact ⟨kk + 1, by omega, by rw [EW.out], by rw [HMS.out, HTV.out], HX8, HB8⟩
                      case measure => exact meas_ok hq (by rw [EW.out])
                    · have f1 : (xx.f1.toList == b.f1.toList) = false := beq_eq_false_iff_ne.2 e1
                      rw [decide_eq_false e1] at HTV
                      clear e0 e1 e2
                      go_wp2
                      go_roundw
                      case rel => exact ⟨kk + 1, by omega, by rw [EW.out], by rw [HMS.out, HTV.out], HX8, HB8⟩
                      case measure => exact meas_ok hq (by rw [EW.out])
                  · have f2 : (xx.f2 == b.f2) = false := beq_eq_false_iff_ne.2 e2
                    rw [f2, Bool.and_false] at HTV
                    clear e0 e2
                    go_wp2
                    go_roundw
                    case rel => exact ⟨kk + 1, by omega, by rw [EW.out], by rw [HMS.out, HTV.out], HX8, HB8⟩
                    case measure => exact meas_ok hq (by rw [EW.out])
                · have f0 : (xx.f0.toList == b.f0.toList) = false := beq_eq_false_iff_ne.2 e0
                  rw [decide_eq_false e0, Bool.false_and, Bool.false_and] at HTV
                  clear e0
                  go_wp2
                  go_roundw
                  case rel => exact ⟨kk + 1, by omega, by rw [EW.out], by rw [HMS.out, HTV.out], HX8, HB8⟩
                  case measure => exact meas_ok hq (by rw [EW.out])
            · have dq : decide (kk < out1.length) = false := decide_eq_false hq
              obtain rfl : kk = out1.length := by omega
              rw [List.take_length]
              clear hkk hq g1
              have hw := HW.out
              obtain ⟨m, hm⟩ : ∃ m, (1 + q0 - k).toNat = m + 1 := ⟨(1 + q0 - k).toNat - 1, by omega⟩
              have hm2 : (1 + q0 - (k + 1)).toNat = m := by omega
              have ek : wrap64 (k + 1) = k + 1 := wrap_small (by omega) (by omega)
              rw [hm, bl, if_pos h4, HM.out] at hw
              dsimp only at hw
              clear hm
              have HEK := Aside0.mk ek
              have HM2 := Aside0.mk hm2
              clear ek hm2
              cases hmt : (out1.any fun j => twinB (br bs1 j) b) with
              | true =>
                rw [if_pos hmt] at hw
                have HW2 := Aside0.mk hw
                have HBb := Aside0.mk HB7.out.back
                clear hw HW HX7 HB7 hmt
                go_wp2
                go_roundw
                case rel => exact ⟨k + 1, p4, _, _, bs1, out1, rfl, by first | rfl | rw [HEK.out], by omega, by omega, hl40, HTB, ⟨by rw [HM2.out]; exact HW2.out⟩, WF1, ⟨HO.out.1, by have := HO.out.2; omega⟩, HBb⟩
                case measure => exact meas_int hk0 hlt (by first | rfl | rw [HEK.out])
              | false =>
                rw [if_neg (by rw [hmt]; decide)] at hw
                have HW2 := Aside0.mk hw
                obtain ⟨e5, a5, b5, t5⟩ := nx_f hL HTB.out (n := 5) (by omega) (by omega)
                clear e5
                obtain ⟨⟨q5, p5⟩, E5⟩ : ∃ q, nx L p4 5 = q := ⟨_, rfl⟩
                rw [E5] at a5 b5 t5
                dsimp only at a5 b5 t5
                have HE5 := Aside0.mk E5
                have HT5 := Aside0.mk t5
                clear hw HW t5 E5 hmt
                go_upto_if 95 with (first | ((with_reducible refine gate_callee (f := 18) rfl ?_); refine goesL_ (some 94) rfl rfl Try.func18 (by kernel_rfl) rfl #[.pointer (some ⟨g, 0, none⟩), .int .i64 5] rfl (by (try simp only [List.map_toArray, List.map_cons, List.map_nil]); first | done | rfl) ?_; (with_reducible refine (nx_call2 hL HB7.out HTB.out HE5.out (by omega) (by omega)).mono ?_); rintro e w8 ⟨rfl, hi, hk⟩; refine ⟨_, rfl, ?_⟩; have HX8 := Aside0.mk (KeepBut.blk hk HX7.out HXg.out (by simp)); have HB8 := Aside0.mk hi; clear hi hk HX7 HB7))
                go_cut [] (fun wc => ∃ (b2 : BR) (p6 : Int), Aside0 (mkR L b p4 = (b2, p6)) ∧ Aside0 (wc.heap[x]? = some (.cells (cellsM b2) 46 (0, 0))) ∧ Aside0 (BI w0 w wc g cb L p6 vD vB (.slice A bs1.length c) (.slice Ao out1.length co) ok (fun k => k = x) bs1 out1))
                case first =>
                  by_cases h5 : 0 < q5
                  · have d5 : decide (0 < q5) = true := decide_eq_true h5
                    have H5 := Aside0.mk h5
                    go_wp2_with (first | ((with_reducible refine gate_callee (f := 34) rfl ?_); refine goesL_ (some 97) rfl rfl Try.func34 (by kernel_rfl) rfl #[.pointer (some ⟨g, 0, none⟩)] rfl (by (try simp only [List.map_toArray, List.map_cons, List.map_nil]); first | done | rfl) ?_; (with_reducible refine (ru_call hL HB8.out HT5.out).mono ?_); rintro e w9 ⟨rfl, hi, hk⟩; refine ⟨_, rfl, ?_⟩; have HX9 := Aside0.mk (KeepBut.blk hk HX8.out HXg.out (by simp)); have HB9 := Aside0.mk hi; have z5 : w9.cell? ⟨x, 5, none⟩ = some (.bool b.f5) := (blk_cell HX9.out 5).trans rfl; have fz5 := blk_frozen HX9.out 5; clear hi hk HX8 HB8) | ((with_reducible refine gate_ (.store 44 (.tmp 99) (.tmp 97)) rfl ?_); refine store_at (x := x) (o := 6) (u := .agg #[.string (ruB L p5).1.f0, .int .i64 (ruB L p5).1.f1, .int .i64 (ruB L p5).1.f2, .float .f64 (ruB L p5).1.f3, .bool (ruB L p5).1.f4, .bool (ruB L p5).1.f5]) (seg := [.string (ruB L p5).1.f0, .int .i64 (ruB L p5).1.f1, .int .i64 (ruB L p5).1.f2, .float .f64 (ruB L p5).1.f3, .bool (ruB L p5).1.f4, .bool (ruB L p5).1.f5]) rfl rfl rfl rfl rfl (blk_put HX9.out 5 (.bool true) rfl) rfl (by kernel_rfl) (show 6 + 6 ≤ 13 by decide) (by intro q hq; simp only [List.mem_cons, List.not_mem_nil, or_false] at hq; rcases hq with rfl | rfl | rfl | rfl | rfl | rfl <;> rfl) ?_; have HX10 := Aside0.mk (blk_cells (o := 6) (seg := [.string (ruB L p5).1.f0, .int .i64 (ruB L p5).1.f1, .int .i64 (ruB L p5).1.f2, .float .f64 (ruB L p5).1.f3, .bool (ruB L p5).1.f4, .bool (ruB L p5).1.f5]) (cur' := cellsM (setR b (ruB L p5).1)) (blk_put HX9.out 5 (.bool true) rfl) (show 6 + 6 ≤ 13 by decide) rfl); have HB10 := Aside0.mk ((HB9.out.cell (o := 5) rfl HXg.out (.bool true)).cells (o := 6) (x := x) rfl HXg.out [.string (ruB L p5).1.f0, .int .i64 (ruB L p5).1.f1, .int .i64 (ruB L p5).1.f2, .float .f64 (ruB L p5).1.f3, .bool (ruB L p5).1.f4, .bool (ruB L p5).1.f5]); clear HX9 HB9))
                    go_meet
                    case rel => exact ⟨setR b (ruB L p5).1, (ruB L p5).2, ⟨by unfold mkR; rw [HE5.out]; dsimp only; rw [if_pos H5.out]⟩, HX10, HB10⟩
                  · have d5 : decide (0 < q5) = false := decide_eq_false h5
                    have H5 := Aside0.mk h5
                    go_wp2
                    go_meet
                    case rel => exact ⟨b, p5, ⟨by unfold mkR; rw [HE5.out]; dsimp only; rw [if_neg (Int.not_lt.2 H5.out)]⟩, HX8, HB8⟩
                case rest =>
                  obtain ⟨b2, p6, HM6, HX6, HB6⟩ := hcut
                  obtain ⟨hbr, t6⟩ := mkR_ok hL HBK.out HTB.out
                  have hw := HW2.out
                  rw [HM6.out] at hbr t6 hw
                  dsimp only at hbr t6 hw
                  have HW3 := Aside0.mk hw
                  have HBR := Aside0.mk hbr
                  have HT6 := Aside0.mk t6
                  have HXL := Aside0.mk (blk_lt HX6.out)
                  have HFR := Aside0.mk (HB6.out.fresh HXL.out)
                  have HSZ := Aside0.mk HB6.out.szW
                  have HLN := Aside0.mk (show (out1.length + 1) * 8 ≤ 140737488355328 from by have := HO.out.2; omega)
                  have g6 := HB6.out.c1
                  clear hw hbr t6 HW2 HT5 HE5 HM6
                  go_wp2_with (first | ((with_reducible refine gate_dst (N := 108) rfl ?_); at_builtin; refine Aside0.out ?_))
                  refine ⟨?_⟩
                  refine Kd.R_append kI (w0 := wc) w.heap.size rfl (.tmp 105) (.tmp 107) 22 3 (.int .i64 0) 8 rfl Try.underlying22 info3 rfl (by decide) (by omega) (.slice Ao out1.length co) out1 (bs1.length : Int) [.int .i64 bs1.length] (fun k => ¬ k = x) (fun _ => False) rfl rfl rfl (fun _ h => h.elim) HFR.out.1 HB6.out.ro (Below.refl _ _) HSZ.out HLN.out ?_
                  intro v4 w4 hv4 hb4 hg4 hx4
                  obtain ⟨hb6, hx6⟩ := HB6.out.outs HX6.out hv4 hb4 hg4 hx4
                  obtain ⟨Ao2, co2, e4⟩ := Kd.R_slice hv4
                  obtain ⟨out2, ho2⟩ : ∃ o, o = out1 ++ [(bs1.length : Int)] := ⟨_, rfl⟩
                  rw [← ho2] at e4 hb6
                  obtain ⟨no2, hn2⟩ : ∃ n, n = out2.length := ⟨_, rfl⟩
                  rw [← hn2] at e4
                  subst e4
                  have HO2 := Aside0.mk ho2
                  have HN2 := Aside0.mk hn2
                  have HB8 := Aside0.mk hb6
                  have HX8 := Aside0.mk hx6
                  clear hv4 hb4 hg4 hx4 hb6 hx6 ho2 hn2 g6 HB6 HX6 HFR HSZ HLN HXL
                  go_upto_region 20 with fail
                  have HB9 := Aside0.mk HB8.out.drew
                  have HX9 := Aside0.mk (show w4.drew.heap[x]? = _ from HX8.out)
                  have HFR := Aside0.mk (HB9.out.fresh (blk_lt HX9.out)).2
                  have HMK := Aside0.mk (k46_mkM w4.drew w0.heap.size (fun _ => False) b2 (v12 := .slice none 0 0) (by rw [HBR.out.2.2.1]; exact Kd.R_nil _ _ _ _ _))
                  have R1 := Aside0.mk HB9.out.rb
                  have R2 := Aside0.mk HB9.out.bl
                  have R3 := Aside0.mk HB9.out.bl.size
                  have HLN := Aside0.mk (show (bs1.length + 1) * 136 ≤ 140737488355328 by omega)
                  clear HB8 HX8
                  refine start_ (n := 11) (S := fun w' => w'.cell? ⟨cb, 1, none⟩ = some (.slice A bs1.length c) ∧ w'.heap[x]? = some (.cells (cellsM b2) 46 (0, 0))) (ds := [10]) #[false, false, false, false, false, false, false, false, false, false, false] (by kernel_rfl) rfl rfl (⟨HB9.out.c1, HX9.out⟩) (fun hHeld => ?_)
                  generalize w4.drew = W2 at *
                  refine pure_ (i := 0) (N := (some 109)) (v := ?_) (a' := ?_) #[true, false, false, false, false, false, false, false, false, false, false] rfl rfl (by kernel_rfl) (fun _ _ _ h => h) (Or.inl ⟨by rfl, ?_⟩) ?_ ?_
                  rotate_left
                  · intro w'
                    go_simp
                    try with_reducible rfl
                  rotate_left
                  · simp only [Act.put, List.setIfInBounds_toArray, List.set_cons_zero, List.set_cons_succ, i64_w, i32_w]
                    rfl
                  refine pure_ (i := 1) (N := (some 110)) (v := ?_) (a' := ?_) #[true, true, false, false, false, false, false, false, false, false, false] rfl rfl (by kernel_rfl) (fun _ _ _ h => h) (Or.inl ⟨by rfl, ?_⟩) ?_ ?_
                  rotate_left
                  · intro w'
                    go_simp
                    try with_reducible rfl
                  rotate_left
                  · simp only [Act.put, List.setIfInBounds_toArray, List.set_cons_zero, List.set_cons_succ, i64_w, i32_w]
                    rfl
                  refine pure_ (i := 2) (N := (some 111)) (v := ?_) (a' := ?_) #[true, true, true, false, false, false, false, false, false, false, false] rfl rfl (by kernel_rfl) (fun _ _ _ h => h) (Or.inl ⟨by rfl, ?_⟩) ?_ ?_
                  rotate_left
                  · intro w'
                    go_simp
                    try with_reducible rfl
                  rotate_left
                  · simp only [Act.put, List.setIfInBounds_toArray, List.set_cons_zero, List.set_cons_succ, i64_w, i32_w]
                    rfl
                  refine pure_ (i := 3) (N := (some 112)) (v := ?_) (a' := ?_) #[true, true, true, true, false, false, false, false, false, false, false] rfl rfl (by kernel_rfl) (fun _ _ _ h => h) (Or.inl ⟨by rfl, ?_⟩) ?_ ?_
                  rotate_left
                  · intro w'
                    go_simp
                    try with_reducible rfl
                  rotate_left
                  · simp only [Act.put, List.setIfInBounds_toArray, List.set_cons_zero, List.set_cons_succ, i64_w, i32_w]
                    rfl
                  refine take_ (i := 4) (N := (some 113)) (v := ?_) (a' := ?_) #[true, true, true, true, true, false, false, false, false, false, false] rfl rfl (by kernel_rfl) (fun _ _ _ h => h) (Or.inl ⟨by rfl, ?_⟩) hHeld ?_ ?_
                  rotate_left
                  · intro w' s0
                    obtain ⟨s0, s1⟩ := s0
                    obtain ⟨x0, x1, x2, x3, x4, x5, x6, x7, x8, x9, x10, x11, x12⟩ := cellsM_at s1
                    go_simp
                    try with_reducible rfl
                  rotate_left
                  · simp only [Act.put, List.setIfInBounds_toArray, List.set_cons_zero, List.set_cons_succ, i64_w, i32_w]
                    rfl
                  refine take_ (i := 5) (N := (some 114)) (v := ?_) (a' := ?_) #[true, true, true, true, true, true, false, false, false, false, false] rfl rfl (by kernel_rfl) (fun _ _ _ h => h) (Or.inl ⟨by rfl, ?_⟩) hHeld ?_ ?_
                  rotate_left
                  · intro w' s0
                    obtain ⟨s0, s1⟩ := s0
                    obtain ⟨x0, x1, x2, x3, x4, x5, x6, x7, x8, x9, x10, x11, x12⟩ := cellsM_at s1
                    go_simp
                    try with_reducible rfl
                  rotate_left
                  · simp only [Act.put, List.setIfInBounds_toArray, List.set_cons_zero, List.set_cons_succ, i64_w, i32_w]
                    rfl
                  refine one_ (i := 6) (N := (some 115)) #[true, true, true, true, true, true, true, false, false, false, false] rfl rfl (by kernel_rfl) (by decide) (fun K hK => ?_)
                  refine value_ (w1 := ?_) (v := ?_) (by rfl) rfl ?_ ?_
                  rotate_left 2
                  · go_simp
                    constructor
                    · rfl
                    · rfl
                  refine hK.out _ _ ⟨pw_cell_below (below_alloc (Below.refl _ _) _) hHeld.1, (Below.heap_alloc _ _ _ (blk_lt hHeld.2)).trans hHeld.2⟩ (fun hHeld => ?_)
                  clear hK K
                  refine norm_ (a' := ?_) ?_ ?_
                  rotate_left
                  · show Act.put _ (some 115) _ = _
                    simp only [Act.put, List.setIfInBounds_toArray, List.set_cons_zero, List.set_cons_succ, i64_w, i32_w]
                    rfl
                  refine one_ (i := 7) (N := (some 116)) #[true, true, true, true, true, true, true, true, false, false, false] rfl rfl (by kernel_rfl) (by decide) (fun K hK => ?_)
                  refine Kd.R_append_step kB (w0 := w0) w0.heap.size (by rfl) (.tmp 113) (.tmp 115) 25 46 (.agg #[(.string ⟨#[]⟩), (.string ⟨#[]⟩), (.bool false), (.int .i64 0), (.int .i64 0), (.bool false), (.string ⟨#[]⟩), (.int .i64 0), (.int .i64 0), (.float .f64 0), (.bool false), (.bool false), (.slice none 0 0)]) 136 rfl Try.underlying25 info46 rfl (by decide) (by omega) (.slice A bs1.length c) bs1 b2 [.string b2.f0, .string b2.f1, .bool b2.f2, .int .i64 b2.f3, .int .i64 b2.f4, .bool b2.f5, .string b2.f6.f0, .int .i64 b2.f6.f1, .int .i64 b2.f6.f2, .float .f64 b2.f6.f3, .bool b2.f6.f4, .bool b2.f6.f5, .slice none 0 0] (fun k => (ok k ∨ w.heap.size ≤ k) ∧ some k ≠ (Value.slice Ao2 no2 co2).ownBlock ∧ ¬ k = x) (fun _ => False) rfl rfl HMK.out (fun _ hk => hk.elim) HFR.out R1.out R2.out R3.out HLN.out ?_
                  intro v1 w1 hr1 hb1 hg1 hat1
                  obtain ⟨Av, cv, hv1⟩ := Kd.R_slice hr1
                  obtain ⟨n1, hn1⟩ : ∃ n, n = (bs1 ++ [b2]).length := ⟨_, rfl⟩
                  rw [← hn1] at hv1
                  subst hv1
                  have hh1 := (hg1.block _ (blk_lt HB9.out.cc) (Kd.R_ne HB9.out.rb HB9.out.cc (by decide))).trans HB9.out.cc
                  have hx1 := (hg1.block _ (blk_lt HX9.out) (fun e => (HB9.out.rb.1 x e.symm).2.2 rfl)).trans HX9.out
                  have f1 := blk_frozen hh1 1
                  have f2 : w1.cell? ⟨cb, 1, none⟩ = some (.slice A bs1.length c) := (blk_cell hh1 1).trans rfl
                  have HNN := Aside0.mk hn1
                  have HR1 := Aside0.mk hr1
                  have HBb := Aside0.mk hb1
                  have HG1 := Aside0.mk hg1
                  have HAT := Aside0.mk hat1
                  clear hr1 hb1 hg1 hat1 hn1 hh1
                  refine hK.out _ _ ⟨f2, hx1⟩ (fun hHeld => ?_)
                  clear hx1
                  clear hK K
                  refine norm_ (a' := ?_) ?_ ?_
                  rotate_left
                  · show Act.put _ (some 116) _ = _
                    simp only [Act.put, List.setIfInBounds_toArray, List.set_cons_zero, List.set_cons_succ, i64_w, i32_w]
                    rfl
                  refine pure_ (i := 8) (N := (some 117)) (v := ?_) (a' := ?_) #[true, true, true, true, true, true, true, true, true, false, false] rfl rfl (by kernel_rfl) (fun _ _ _ h => h) (Or.inl ⟨by rfl, ?_⟩) ?_ ?_
                  rotate_left
                  · intro w'
                    go_simp
                    try with_reducible rfl
                  rotate_left
                  · simp only [Act.put, List.setIfInBounds_toArray, List.set_cons_zero, List.set_cons_succ, i64_w, i32_w]
                    rfl
                  refine pure_ (i := 9) (N := (some 118)) (v := ?_) (a' := ?_) #[true, true, true, true, true, true, true, true, true, true, false] rfl rfl (by kernel_rfl) (fun _ _ _ h => h) (Or.inl ⟨by rfl, ?_⟩) ?_ ?_
                  rotate_left
                  · intro w'
                    go_simp
                    try with_reducible rfl
                  rotate_left
                  · simp only [Act.put, List.setIfInBounds_toArray, List.set_cons_zero, List.set_cons_succ, i64_w, i32_w]
                    rfl
                  refine last_ (i := 10) (N := none) #[true, true, true, true, true, true, true, true, true, true, true] rfl rfl (by kernel_rfl) (by decide) (fun K hK => ?_)
                  refine skip_ (w1 := ?_) (by rfl) rfl ?_ ?_
                  rotate_left
                  · go_simp
                    rfl
                  refine hK.out _ _ ?_
                  clear hK K
                  refine done_ (by kernel_rfl) ?_
                  obtain ⟨bs2, hbs2⟩ : ∃ o, o = bs1 ++ [b2] := ⟨_, rfl⟩
                  have HR1b := HR1.out
                  rw [← hbs2] at HR1b
                  have HBS := Aside0.mk hbs2
                  have HB10 := Aside0.mk (HB9.out.row HG1.out HAT.out HBb.out hcb HR1b).back
                  clear HR1b hbs2 f1 f2 hHeld HR1 HG1 HAT HBb HB9 HX9 HFR HMK R1 R2 R3 HLN
                  generalize w1.setCell ⟨cb, 1, none⟩ (.slice Av n1 cv) = W3 at *
                  have HL2 := Aside0.mk (show bs2.length = bs1.length + 1 by rw [HBS.out]; simp)
                  have HWF2 := Aside0.mk (show ∀ b ∈ bs2, WfB b from fun b hb => by
                    rw [HBS.out] at hb
                    rcases List.mem_append.1 hb with h1 | h1
                    · exact WF1.out b h1
                    · simp at h1; rw [h1]; exact HBR.out.2.1)
                  have HO2b := Aside0.mk (show (∀ j ∈ out2, 0 ≤ j ∧ j < bs2.length) ∧ (out2.length : Int) ≤ k + 1 from ⟨fun j hj => by
                    rw [HO2.out] at hj
                    have hl2 := HL2.out
                    rcases List.mem_append.1 hj with h1 | h1
                    · have := HO.out.1 j h1; omega
                    · simp at h1; omega, by rw [HO2.out]; have := HO.out.2; simp; omega⟩)
                  have hw := HW3.out
                  rw [← HBS.out, ← HO2.out] at hw
                  clear HW3 HM
                  by_cases hf0 : 0 < f
                  · have dd1 : decide ((4 - (f : Int)) < 4) = true := decide_eq_true (by omega)
                    obtain ⟨e7, a7, b7, t7⟩ := nx_f hL HT6.out (n := 3) (by omega) (by omega)
                    clear e7
                    obtain ⟨⟨q7, p7⟩, E7⟩ : ∃ q, nx L p6 3 = q := ⟨_, rfl⟩
                    rw [if_pos (decide_eq_true hf0), E7] at hw
                    rw [E7] at a7 b7 t7
                    dsimp only at hw a7 b7 t7
                    have HE7 := Aside0.mk E7
                    have HT7 := Aside0.mk t7
                    clear E7 t7
                    by_cases h7 : q7 = 0
                    · rw [if_pos h7] at hw
                      have HW4 := Aside0.mk hw
                      subst h7
                      clear hw a7 b7
                      go_upto_if 125 with (first | ((with_reducible refine gate_callee (f := 18) rfl ?_); refine Aside0.out ?_))
                      refine ⟨?_⟩
                      refine goesW_ (some 123) rfl Try.func18 (by kernel_rfl) rfl #[.pointer (some ⟨g, 0, none⟩), .int .i64 3] rfl (by (try simp only [List.map_toArray, List.map_cons, List.map_nil]); first | done | rfl) (by rfl) ?_
                      (with_reducible refine (nx_call2 hL HB10.out HT6.out HE7.out (by omega) (by omega)).mono ?_)
                      rintro e w8 ⟨rfl, hi, hk⟩
                      refine ⟨_, rfl, ?_⟩
                      have HB11 := Aside0.mk hi
                      clear hi hk HB10
                      go_upto_if 125 with fail
                      obtain ⟨f', hf'⟩ : ∃ f', f' + 1 = f := ⟨f - 1, by omega⟩
                      have HIH := Aside0.mk (IH.out f' (by omega) (bs1.length : Int) HT7.out (by have := HL2.out; omega) HWF2.out (by omega) HB11.out.enter)
                      obtain ⟨F9, _, hmade⟩ := brs_made hL dom f (bs1.length : Int) 1 (f + 1) bs2 p7 (by omega) hf0 (by omega) (by have := HL2.out; omega) HWF2.out HT7.out
                      rw [hf', show (4 - (f' : Int)) = 4 - (f : Int) + 1 by omega] at HIH
                      clear hf'
                      obtain ⟨r, hr⟩ : ∃ r, r = brs L dom f (bs1.length : Int) bs2 p7 := ⟨_, rfl⟩
                      rw [← hr] at HIH hmade
                      have HW5 := HW4.out
                      rw [← hr] at HW5
                      have HW6 := Aside0.mk HW5
                      have HMD := Aside0.mk hmade
                      clear HW4 HW5 hr hmade
                      have EDP := Aside0.mk (wrap_small (x := 4 - (f : Int) + 1) (by omega) (by omega))
                      go_upto_region 23 with fail
                      try rw [EDP.out]
                      (with_reducible refine (HIH.out).mono ?_)
                      rintro e w9 ⟨vk, vB2, rfl, hK⟩
                      have hlt9 : bs1.length < r.2.1.length := by have := HMD.out.le; have := HL2.out; omega
                      have HB12 := Aside0.mk (HB11.out.leave hK)
                      obtain ⟨gB, capB, evB, _, _⟩ := Kd.R_form HB12.out.rb (by omega)
                      have HKI := HB11.out.kids hK
                      obtain ⟨Avk, cvk, evk⟩ := Kd.R_slice HKI
                      subst evB
                      subst evk
                      have HST := Aside0.mk (HB12.out.setk (P := Try.prog) rfl (n := bs1.length) hlt9 HKI 22 (by kernel_rfl))
                      have g12 := HB12.out.c1
                      clear hK HKI HIH HB11 HB12 EDP
                      go_wp2_with (first | ((with_reducible refine gate_ (.store 22 (.tmp 140) (.tmp 138)) rfl ?_); refine Aside0.out ?_))
                      refine ⟨?_⟩
                      refine store_run rfl rfl rfl rfl rfl HST.out.1 ?_
                      have hgd : r.2.1.getD bs1.length zB = b2 := by
                        rw [HMD.out.old bs1.length (Nat.zero_le _) (by have := HL2.out; omega), HBS.out]
                        exact getD_last _ _
                      have hb13 := HST.out.2
                      rw [hgd] at hb13
                      have HB13 := Aside0.mk hb13
                      clear hb13 HST g12 hgd
                      generalize w9.setCells gB (bs1.length * 13 + 12) [.slice Avk r.1.length cvk] = W5 at *
                      go_wp2
                      go_roundw
                      case rel => exact ⟨k + 1, r.2.2, _, _, r.2.1.set bs1.length (setK b2 r.1), out2, rfl, by first | rfl | rw [HEK.out], by omega, by omega, by rw [List.length_set]; exact HMD.out.hi, ⟨HMD.out.ts⟩, ⟨by rw [HM2.out]; exact HW6.out⟩, ⟨fun b hb => by
                        rcases List.mem_or_eq_of_mem_set hb with h1 | h1
                        · exact HMD.out.wf b h1
                        · rw [h1]; exact ⟨HBR.out.2.1.s0, HBR.out.2.1.s1, HBR.out.2.1.s6, HBR.out.2.1.x6⟩⟩, ⟨fun j hj => by
                        rw [List.length_set]
                        have := HO2b.out.1 j hj
                        have := HMD.out.le
                        omega, HO2b.out.2⟩, HB13⟩
                      case measure => exact meas_int hk0 hlt (by first | rfl | rw [HEK.out])
                    · rw [if_neg h7] at hw
                      have HW4 := Aside0.mk hw
                      have d7 : decide (q7 = 0) = false := decide_eq_false h7
                      have d8 : (q7 == 0) = false := beq_eq_false_iff_ne.2 h7
                      clear hw
                      go_wp2_with (first | ((with_reducible refine gate_callee (f := 18) rfl ?_); refine goesW_ (some 123) rfl Try.func18 (by kernel_rfl) rfl #[.pointer (some ⟨g, 0, none⟩), .int .i64 3] rfl (by (try simp only [List.map_toArray, List.map_cons, List.map_nil]); first | done | rfl) (by rfl) ?_; (with_reducible refine (nx_call2 hL HB10.out HT6.out HE7.out (by omega) (by omega)).mono ?_); rintro e w8 ⟨rfl, hi, hk⟩; refine ⟨_, rfl, ?_⟩; have HB11 := Aside0.mk hi; clear hi hk HB10))
                      go_roundw
                      case rel => exact ⟨k + 1, p7, _, _, bs2, out2, rfl, by first | rfl | rw [HEK.out], by omega, by omega, by have := HL2.out; omega, HT7, ⟨by rw [HM2.out]; exact HW4.out⟩, HWF2, HO2b, HB11⟩
                      case measure => exact meas_int hk0 hlt (by first | rfl | rw [HEK.out])
                  · have dd1 : decide ((4 - (f : Int)) < 4) = false := decide_eq_false (by omega)
                    rw [if_neg (by rw [decide_eq_false hf0]; decide)] at hw
                    have HW4 := Aside0.mk hw
                    clear hw
                    go_wp2
                    go_roundw
                    case rel => exact ⟨k + 1, p6, _, _, bs2, out2, rfl, by first | rfl | rw [HEK.out], by omega, by omega, by have := HL2.out; omega, HT6, ⟨by rw [HM2.out]; exact HW4.out⟩, HWF2, HO2b, HB10⟩
                    case measure => exact meas_int hk0 hlt (by first | rfl | rw [HEK.out])


      · have d2 : decide (bs1.length < 40) = false := decide_eq_false h4
        have hw := HW.out
        obtain ⟨m, hm⟩ : ∃ m, (1 + q0 - k).toNat = m + 1 := ⟨(1 + q0 - k).toNat - 1, by omega⟩
        rw [hm, bl, if_neg h4] at hw
        have HW2 := Aside0.mk hw
        clear hw hm HW
        go_wp2
        go_ret
        rw [← HW2.out]
        exact ⟨_, _, rfl, HB.out⟩
    · have d1 : decide (k < 1 + q0) = false := decide_eq_false hlt
      have hw := HW.out
      rw [show (1 + q0 - k).toNat = 0 by omega, bl] at hw
      have HW2 := Aside0.mk hw
      clear hw HW
      go_wp2
      go_ret
      rw [← HW2.out]
      first | exact ⟨_, _, rfl, HB.out⟩ | exact ⟨_, rfl, _, HB.out⟩
end Go.Proofs.Ytipbigdpannlcaa.Tr
