/- The document's wheel; what a wheel owns. -/
import Derived.Test.YtjgoddieamphpaaMB
import Derived.Test.YtjgoddieamphpaaPWheelActsx0
import Derived.Test.YtjgoddieamphpaaPWheelActsx1
import Derived.Test.YtjgoddieamphpaaPWheelActsx2
import Derived.Deep.LoopGhost
namespace Go.Proofs.Ytjgoddieamphpaa.Wh
open Go.RowKit Go.Sort Go.Proofs.YtjgoddieamphpaaW.PrintWords Go.Proofs.YtjgoddieamphpaaW.PrintLast Heap Go.Proofs.Ytjgoddieamphpaa.Obj Go.Proofs.Ytjgoddieamphpaa.PWheelActs
set_option maxRecDepth 100000
set_option linter.unusedVariables false
theorem bytes_beq_true (a : ByteArray) : (a.toList == a.toList) = true := by simp
theorem bytes_ne {a b : ByteArray} (h : a ≠ b) : a.toList ≠ b.toList := by
  intro e; apply h
  have e1 : a.toList = a.data.toList := by exact ByteArray.toList_eq a
  have e2 : b.toList = b.data.toList := by exact ByteArray.toList_eq b
  rw [e1, e2] at e
  cases a; cases b; simp at e; simp [e]
/-- where a key stands -/
def idx : List S98 → ByteArray → Option Nat
  | [], _ => none
  | c :: t, k => if c.f0 = k then some 0 else (idx t k).map (· + 1)
def fnd (L : List S98) (k : ByteArray) : Int := match idx L k with | some i => (i : Int) | none => -1
theorem idx_some : ∀ {L : List S98} {k : ByteArray} {i : Nat}, idx L k = some i → i < L.length ∧ (L.getD i z98).f0 = k
  | [], _, _, h => by cases h
  | c :: t, k, i, h => by
    unfold idx at h
    split at h
    · obtain rfl := Option.some.inj h
      exact ⟨by simp, by simpa using ‹_›⟩
    · obtain ⟨j, hj, rfl⟩ := Option.map_eq_some_iff.1 h
      obtain ⟨h1, h2⟩ := idx_some hj
      exact ⟨by simp; omega, by simpa using h2⟩
theorem idx_none : ∀ {L : List S98} {k : ByteArray}, idx L k = none → ∀ c ∈ L, c.f0 ≠ k
  | [], _, _ => by simp
  | c :: t, k, h => by
    unfold idx at h
    split at h
    · cases h
    · rename_i hne
      intro d hd
      rcases List.mem_cons.1 hd with rfl | hd
      · exact hne
      · exact idx_none (Option.map_eq_none_iff.1 h) d hd
theorem bytes_eq_iff (a b : ByteArray) : a.toList = b.toList ↔ a = b := by
  constructor
  · intro e
    apply Classical.byContradiction
    intro h; exact bytes_ne h e
  · rintro rfl; rfl
theorem find_l0 (L : List S98) (k : ByteArray) (hN : L.length ≤ 1000000) : ∀ (n i K : Nat), i + n = L.length → n < K → turncockref20_find.l0 K L k (i : Int) = some (match idx (L.drop i) k with | some j => ((i + j : Nat) : Int) | none => -1) := by
  intro n
  induction n with
  | zero =>
    intro i K hi hK
    obtain ⟨K, rfl⟩ : ∃ m, K = m + 1 := ⟨K - 1, by omega⟩
    simp only [turncockref20_find.l0]
    rw [if_neg (by omega), List.drop_eq_nil_of_le (by omega)]
    rfl
  | succ n ih =>
    intro i K hi hK
    obtain ⟨K, rfl⟩ : ∃ m, K = m + 1 := ⟨K - 1, by omega⟩
    have hlt : i < L.length := by omega
    have w1 : wrap64 ((i : Int) + 1) = ((i + 1 : Nat) : Int) := by unfold wrap64; omega
    have hrd : rd_T98 L (i : Int) = L[i] := by
      unfold rd_T98
      rw [Int.toNat_natCast, List.getD_eq_getElem?_getD, List.getElem?_eq_getElem hlt]; rfl
    simp only [turncockref20_find.l0]
    rw [if_pos (by omega), if_pos (by omega), hrd, w1, List.drop_eq_getElem_cons hlt]
    by_cases h : L[i].f0 = k
    · rw [if_pos ((bytes_eq_iff _ _).2 h), show idx (L[i] :: L.drop (i + 1)) k = some 0 from if_pos h]; rfl
    · rw [if_neg (fun e => h ((bytes_eq_iff _ _).1 e)), ih (i + 1) K (by omega) (by omega), show idx (L[i] :: L.drop (i + 1)) k = (idx (L.drop (i + 1)) k).map (· + 1) from if_neg h]
      cases idx (L.drop (i + 1)) k with
      | none => rfl
      | some j =>
        show some (((i + 1 + j : Nat)) : Int) = some ((i + (j + 1) : Nat) : Int)
        rw [show i + 1 + j = i + (j + 1) by omega]
theorem find_f (L : List S98) (k : ByteArray) (hN : L.length ≤ 1000000) : turncockref20_find.f (L.length + 1) L k = some (fnd L k) := by
  have := find_l0 L k hN L.length 0 (L.length + 1) (by omega) (by omega)
  unfold turncockref20_find.f fnd
  have e : ((0 : Nat) : Int) = 0 := rfl
  rw [e, List.drop_zero] at this
  rw [this]
  cases idx L k with
  | none => rfl
  | some j => simp
/-- a row without one place -/
def dropAt (L : List S98) (i : Nat) : List S98 := L.take i ++ L.drop (i + 1)
theorem drop_f (L : List S98) (i : Nat) (hN : L.length ≤ 1000000) (hi : i < L.length) : turncockref20_drop.f L (i : Int) = some (dropAt L i) := by
  unfold turncockref20_drop.f dropAt
  have w1 : wrap64 ((i : Int) + 1) = ((i + 1 : Nat) : Int) := by unfold wrap64; omega
  simp only [Option.bind_some, w1, Int.toNat_natCast]
  have l1 : (L.take i).length ≤ L.length := by rw [List.length_take]; omega
  have l2 : (L.drop (i + 1)).length ≤ L.length := by rw [List.length_drop]; omega
  rw [if_pos (by omega), if_pos (by omega), if_pos (by simp; omega), if_pos (by omega), if_pos (by omega), if_pos (by simp; omega)]
  simp
theorem find_any (L : List S98) (k : ByteArray) (hN : L.length ≤ 1000000) (A : Option Addr) (c : Nat) (w : World) (hr : Kd.C k98 w A L.length L) (hc : L.length ≤ c) :
    Calls Try.prog 65 #[.slice A L.length c, .string k] w fun e w' => e = .returned (.int .i64 (fnd L k)) ∧ ∃ n, w' = w.drewN n := by
  refine (turncockref20_find.calls (L.length + 1) A c L k (fnd L k) w hr hc (find_f L k hN)).mono ?_
  rintro e w' ⟨he, ⟨n, hn⟩⟩
  exact ⟨he, n, hn⟩
def getU (L : List S98) (k : ByteArray) : Int := match idx L k with | some i => (L.getD i z98).f2 | none => 0
def hasB (L : List S98) (k : ByteArray) : Bool := (idx L k).isSome
def delL (L : List S98) (k : ByteArray) : List S98 := match idx L k with | some i => dropAt L i | none => L
def putW (L : List S98) (k : ByteArray) (t : Int) : List S98 := delL L k ++ [⟨k, 0, t⟩]
theorem dropAt_len (L : List S98) (i : Nat) (hi : i < L.length) : (dropAt L i).length + 1 = L.length := by
  unfold dropAt; rw [List.length_append, List.length_take, List.length_drop]; omega
theorem delL_len (L : List S98) (k : ByteArray) : (delL L k).length ≤ L.length := by
  unfold delL
  split
  · rename_i i hi
    have := dropAt_len L i (idx_some hi).1; omega
  · exact Nat.le_refl _
theorem drop_any (L : List S98) (i : Nat) (hN : L.length ≤ 1000000) (hi : i < L.length) (A : Option Addr) (c : Nat) (w : World) (hr : Kd.C k98 w A L.length L) (hc : L.length ≤ c) :
    Calls Try.prog 72 #[.slice A L.length c, .int .i64 (i : Int)] w fun e w' => ∃ v, e = .returned v ∧ Kd.R k98 98 w' w.heap.size (fun _ => True) v (dropAt L i) ∧ Below w.heap.size w w' :=
  turncockref20_drop.calls A c L (i : Int) (dropAt L i) w hr hc (drop_f L i hN hi)
theorem k98_ty : ∀ q, q ∈ 98 :: k98.E → q ≠ 51 := by
  intro q hq
  have : q = 98 := by simpa [k98, Kd.iso, Kd.pair, Kd.string, Kd.int, Kd.scalar] using hq
  omega
/-- The document's wheel in memory. -/
structure RW (w : World) (m : Nat) (L : List S98) (v : Value) : Prop where
  hd : w.heap[m]? = some (.cells #[v] 51 (0, 0))
  row : Kd.R k98 98 w 0 (fun _ => True) v L
  few : L.length ≤ 10000
theorem RW.c0 {w : World} {m : Nat} {L : List S98} {v : Value} (h : RW w m L v) : w.cell? ⟨m, 0, none⟩ = some v := (blk_cell h.hd 0).trans rfl
theorem RW.drewN {w : World} {m : Nat} {L : List S98} {v : Value} (h : RW w m L v) (n : Nat) : RW (w.drewN n) m L v := ⟨h.hd, Kd.R_move h.row (fun _ _ => rfl), h.few⟩
theorem RW.frm {w w1 : World} {m : Nat} {L : List S98} {v : Value} (h : RW w m L v) {F : Nat → Prop} (k : Frm F w w1) (hF : ∀ b cs t, F b → w.heap[b]? = some (.cells cs t (0, 0)) → t ≠ 51 ∧ t ≠ 98) : RW w1 m L v := by
  refine ⟨k.blk h.hd ?_, Kd.R_mono (Kd.R_step (Kd.R_bound h.row) ?_) (fun _ _ => trivial), h.few⟩
  · intro hf
    exact (hF m _ _ hf h.hd).1 rfl
  · rintro b ⟨_, _, _, q, hq, cells, hc⟩ hlt
    refine k.block b hlt fun hf => ?_
    have : q = 98 := by simpa [k98, Kd.iso, Kd.pair, Kd.string, Kd.int, Kd.scalar] using hq
    exact (hF b _ _ hf hc).2 this
theorem RW.lay {w w1 : World} {m : Nat} {L L' : List S98} {v v' : Value} {base : Nat} (h : RW w m L v) (hb : Below w.heap.size w w1) (hr : Kd.R k98 98 w1 base (fun _ => True) v' L') (hl : L'.length ≤ 10000) : RW (w1.setCell ⟨m, 0, none⟩ v') m L' v' :=
  ⟨blk_put (blk_below h.hd hb) 0 v' rfl, Kd.R_lower (Kd.R_set hr (blk_below h.hd hb) k98_ty 0 v') (Nat.zero_le _), hl⟩
theorem frm_lay {w w1 : World} {m : Nat} (h : Frm (fun b => b = m) w w1) (v : Value) : Frm (fun b => b = m) w (w1.setCell ⟨m, 0, none⟩ v) := h.setCell (.inl rfl) _
end Go.Proofs.Ytjgoddieamphpaa.Wh
namespace Go.Proofs.Ytjgoddieamphpaa.Wh
open Go.RowKit Go.Sort Go.Proofs.YtjgoddieamphpaaW.PrintWords Go.Proofs.YtjgoddieamphpaaW.PrintLast Heap Go.Proofs.Ytjgoddieamphpaa.Obj Go.Proofs.Ytjgoddieamphpaa.PWheelActs
set_option maxRecDepth 100000
set_option linter.unusedVariables false
theorem c_drewN {w : World} {a : Addr} {v : Value} (h : w.cell? a = some v) (n : Nat) : (w.drewN n).cell? a = some v := (World.cell?_of_block (w := w) (w' := w.drewN n) rfl).trans h
theorem rdrop_any {w : World} {m : Nat} {L : List S98} {v : Value} (h : RW w m L v) (k : ByteArray) :
    Calls Try.prog 30 #[.pointer (some ⟨m, 0, none⟩), .string k] w fun e w' => e = .returned (.bool (hasB L k)) ∧ (∃ v', RW w' m (delL L k) v') ∧ Frm (fun b => b = m) w w' := by
  obtain ⟨A, c, rfl, hl, hr⟩ := Kd.R_reads h.row
  have hc0 := h.c0
  have hN := Lib.hid (show L.length ≤ 1000000 by have := h.few; omega)
  have hr := Aside0.mk hr
  have hl := Lib.hid hl
  have HH := Aside0.mk h
  have f1 : w.frozen? ⟨m, 0, none⟩ = false := blk_frozen h.hd 0
  cases hi : idx L k with
  | none =>
    have e1 := Lib.hid (show fnd L k = -1 by unfold fnd; rw [hi])
    have e3 := Lib.hid (show hasB L k = false by unfold hasB; rw [hi]; rfl)
    have e4 := Lib.hid (show delL L k = L by unfold delL; rw [hi])
    clear hi
    go_enter Try.func30, Try.ntmps30
    go_wp2_with fail
    (with_reducible refine (find_any L k hN.out A c _ hr.out hl.out).mono ?_); rintro e w' ⟨rfl, n, rfl⟩
    rw [e1.out]
    go_wp2
    go_ret
    exact ⟨by rw [e3.out]; rfl, ⟨_, by rw [e4.out]; exact HH.out.drewN n⟩, (Frm.refl _ _).drewN n⟩
  | some i =>
    have e1 := Lib.hid (show fnd L k = i by unfold fnd; rw [hi])
    have e3 := Lib.hid (show hasB L k = true by unfold hasB; rw [hi]; rfl)
    have e4 := Lib.hid (show delL L k = dropAt L i by unfold delL; rw [hi])
    obtain ⟨hlt, _⟩ := idx_some hi
    have hlt := Lib.hid hlt
    have g1 : decide ((i : Int) < 0) = false := decide_eq_false (by omega)
    clear hi
    go_enter Try.func30, Try.ntmps30
    go_wp2_with fail
    (with_reducible refine (find_any L k hN.out _ c _ hr.out hl.out).mono ?_); rintro e w' ⟨rfl, n, rfl⟩
    rw [e1.out]
    go_wp2_with fail
    (with_reducible refine (drop_any L i hN.out hlt.out _ c _ (Kd.C_below hr.out (pw_below_drewN (Below.refl _ w) n)) hl.out).mono ?_); rintro e w1 ⟨v', rfl, hv, hb⟩
    obtain ⟨A', c', rfl⟩ := Kd.R_slice hv
    have HV := Aside0.mk hv
    have HB := Aside0.mk hb
    have hc0' : w1.cell? ⟨m, 0, none⟩ = some (.slice A L.length c) := pw_cell_below hb (c_drewN hc0 n)
    have f1' : w1.frozen? ⟨m, 0, none⟩ = false := blk_frozen (blk_below (blk_drewN HH.out.hd n) hb) 0
    clear hv hb
    go_wp2
    go_ret
    exact ⟨by rw [e3.out]; rfl, ⟨_, by rw [e4.out]; exact (HH.out.drewN n).lay HB.out HV.out (by unfold dropAt; rw [List.length_append, List.length_take, List.length_drop]; have := HH.out.few; omega)⟩, frm_lay (((Frm.refl _ w).drewN n).trans (Frm.of_below HB.out)) _⟩
theorem rwat_any {w : World} {m : Nat} {L : List S98} {v : Value} (h : RW w m L v) (k : ByteArray) :
    Calls Try.prog 37 #[.pointer (some ⟨m, 0, none⟩), .string k] w fun e w' => e = .returned (.tuple #[.int .i64 (getU L k), .bool (hasB L k)]) ∧ ∃ n, w' = w.drewN n := by
  obtain ⟨A, c, rfl, hl, hr⟩ := Kd.R_reads h.row
  have hc0 := h.c0
  have hN := Lib.hid (show L.length ≤ 1000000 by have := h.few; omega)
  have hr := Aside0.mk hr
  have hl := Lib.hid hl
  cases hi : idx L k with
  | none =>
    have e1 := Lib.hid (show fnd L k = -1 by unfold fnd; rw [hi])
    have e2 := Lib.hid (show getU L k = 0 by unfold getU; rw [hi])
    have e3 := Lib.hid (show hasB L k = false by unfold hasB; rw [hi]; rfl)
    clear hi
    go_enter Try.func37, Try.ntmps37
    go_wp2_with fail
    (with_reducible refine (find_any L k hN.out A c _ hr.out hl.out).mono ?_); rintro e w' ⟨rfl, n, rfl⟩
    rw [e1.out]
    go_wp2
    go_ret2
    exact ⟨by rw [e2.out, e3.out]; rfl, n, rfl⟩
  | some i =>
    have e1 := Lib.hid (show fnd L k = i by unfold fnd; rw [hi])
    have e2 := Lib.hid (show getU L k = (rd_T98 L (i : Int)).f2 by unfold getU rd_T98; rw [hi, Int.toNat_natCast])
    have e3 := Lib.hid (show hasB L k = true by unfold hasB; rw [hi]; rfl)
    obtain ⟨hlt, _⟩ := idx_some hi
    obtain ⟨ad, rfl, q0, q1, q2⟩ := at_T98 hr.out (i : Int) (by omega) (by omega)
    have g1 : decide ((i : Int) < 0) = false := decide_eq_false (by omega)
    rw [Int.toNat_natCast] at q0 q1 q2
    clear hi
    go_enter Try.func37, Try.ntmps37
    go_wp2_with fail
    (with_reducible refine (find_any L k hN.out _ c _ hr.out hl.out).mono ?_); rintro e w' ⟨rfl, n, rfl⟩
    rw [e1.out]
    go_wp2
    go_ret2
    exact ⟨by rw [e2.out, e3.out]; rfl, n, rfl⟩
end Go.Proofs.Ytjgoddieamphpaa.Wh
namespace Go.Proofs.Ytjgoddieamphpaa.Wh
open Go.RowKit Go.Sort Go.Proofs.YtjgoddieamphpaaW.PrintWords Go.Proofs.YtjgoddieamphpaaW.PrintLast Heap Go.Proofs.Ytjgoddieamphpaa.Obj Go.Proofs.Ytjgoddieamphpaa.PWheelActs
set_option maxRecDepth 100000
set_option linter.unusedVariables false
set_option maxHeartbeats 1000000 in
theorem rwput_any {w : World} {m : Nat} {L : List S98} {v : Value} (h : RW w m L v) (k : ByteArray) (t : Int) (hfw : L.length < 9999) :
    Calls Try.prog 28 #[.pointer (some ⟨m, 0, none⟩), .string k, .int .i64 t] w fun e w' => e = .returned (.tuple #[]) ∧ (∃ v', RW w' m (putW L k t) v') ∧ Frm (fun b => b = m) w w' := by
  obtain ⟨A, c, rfl, hl, hr⟩ := Kd.R_reads h.row
  have hc0 := h.c0
  have hN := Lib.hid (show L.length ≤ 1000000 by have := h.few; omega)
  have hr := Aside0.mk hr
  have hl := Lib.hid hl
  have HH := Aside0.mk h
  have f1 : w.frozen? ⟨m, 0, none⟩ = false := blk_frozen h.hd 0
  cases hi : idx L k with
  | none =>
    have e1 := Lib.hid (show fnd L k = -1 by unfold fnd; rw [hi])
    have HD := Lib.hid (show delL L k = L by unfold delL; rw [hi])
    clear hi h
    go_enter Try.func28, Try.ntmps28
    go_wp2_with fail
    (with_reducible refine (find_any L k hN.out A c _ hr.out hl.out).mono ?_); rintro e w' ⟨rfl, n, rfl⟩
    rw [e1.out]
    go_upto_region 3 with (fail)
    have HW : Aside0 (RW (w.drewN n) m L (.slice A L.length c)) := ⟨HH.out.drewN n⟩
    have HF : Aside0 (Frm (fun b => b = m) w (w.drewN n)) := ⟨(Frm.refl _ w).drewN n⟩
    have hN3 := Lib.hid hfw
    obtain ⟨L2, hL2⟩ : ∃ L2, L2 = L := ⟨_, rfl⟩
    rw [← hL2] at HW hN3
    have HD2 : delL L k = L2 := HD.out.trans hL2.symm
    have HD := Lib.hid HD2
    clear HD2
    generalize w.drewN n = wc at *
    generalize Value.slice A L.length c = vc at *
    clear hc0 hr hl HH f1 hL2
    obtain ⟨A2, c2, e2, hl2, hr2⟩ := Kd.R_reads HW.out.row
    have hcw := HW.out.c0
    rw [e2] at hcw HW
    have HR2 := Aside0.mk hr2
    have HL2 := Lib.hid hl2
    have hN2 := Lib.hid (show L2.length ≤ 1000000 by have := HW.out.few; omega)
    clear e2 hr2 hl2
    go_wp2_with (first | ((with_reducible refine gate_dst (N := 25) rfl ?_); refine Kd.R_lit k98 _ 98 ?hg (N := 25) ?hd (xs := ([] : List S98)) (inner := []) (ok := fun _ => True) (okp := fun _ => True) ?hr ?hp (fun _ hk => hk) trivial (Below.refl _ _) (Nat.le_refl _) (by simp) ?_; (case hd => rfl); (case hg => rfl); (case hr => first | (go_simp; done) | (go_simp; rfl)); (case hp => exact (Reps.none _ _)); intro v1 w1 hv1 hb1 hg1 hx1; have HV1 := Aside0.mk hv1; have HB1 := Aside0.mk hb1; have hc1b := pw_cell_below hb1 hcw; clear hv1 hb1 hg1 hx1) | (at_builtin; refine Kd.R_append_rows k98 _ rfl (.tmp 25) (.tmp 29) 29 98 (.agg #[(.string ⟨#[]⟩), (.int .i64 0), (.int .i64 0)]) 32 rfl Try.underlying29 info98 rfl (by decide) (by omega) v1 ([] : List S98) L2 A2 L2.length c2 (fun _ => True) (fun _ => False) rfl rfl HV1.out (Kd.C_below HR2.out HB1.out) (fun y cs hy => by rw [k98_open hy]; exact k98_mkM _ _ _ _) (fun _ h => h.elim) (fun _ _ => trivial) HB1.out HB1.out.size (by have := hN2.out; simp only [List.length_nil]; omega) ?_; intro v2 w2 hv2 hb2 hg2 hx2; have HV2 := Aside0.mk hv2; have HB2 := Aside0.mk hb2; have HS2 := Aside0.mk hg2.size; clear hv2 hb2 hg2 hx2) | (at_builtin; refine Kd.R_append k98 _ rfl (.tmp 30) (.tmp 34) 29 98 (.agg #[(.string ⟨#[]⟩), (.int .i64 0), (.int .i64 0)]) 32 rfl Try.underlying29 info98 rfl (by decide) (by omega) v2 (([] : List S98) ++ L2) ⟨k, 0, t⟩ [.string k, .int .i64 0, .int .i64 t] (fun _ => True) (fun _ => False) rfl rfl (k98_mkM _ _ _ _) (fun _ h => h.elim) (fun _ _ => trivial) HV2.out HB2.out HB2.out.size (by have := hN2.out; simp only [List.nil_append]; omega) ?_; intro v3 w3 hv3 hb3 hg3 hx3; obtain ⟨A3, c3, rfl⟩ := Kd.R_slice hv3; have HV3 := Aside0.mk hv3; have HB3 := Aside0.mk hb3; have hc1d := pw_cell_below hb3 hcw; have f1d := blk_frozen (blk_below HW.out.hd hb3) 0; clear hv3 hb3 hg3 hx3))
    go_end0
    have hv := HV3.out
    rw [List.nil_append] at hv
    have hlen : (L2 ++ [(⟨k, 0, t⟩ : S98)]).length = L2.length + 1 := by simp
    rw [hlen] at hv
    exact ⟨rfl, ⟨_, by rw [show putW L k t = L2 ++ [⟨k, 0, t⟩] from by unfold putW; rw [HD.out]]; exact HW.out.lay HB3.out hv (by rw [hlen]; have := hN3.out; omega)⟩, frm_lay (HF.out.trans (Frm.of_below HB3.out)) _⟩
  | some i =>
    have e1 := Lib.hid (show fnd L k = i by unfold fnd; rw [hi])
    have HD := Lib.hid (show delL L k = dropAt L i by unfold delL; rw [hi])
    obtain ⟨hlt, _⟩ := idx_some hi
    have hlt := Lib.hid hlt
    have g1 : decide ((0 : Int) ≤ (i : Int)) = true := decide_eq_true (by omega)
    clear hi h
    go_enter Try.func28, Try.ntmps28
    go_wp2_with fail
    (with_reducible refine (find_any L k hN.out _ c _ hr.out hl.out).mono ?_); rintro e w' ⟨rfl, n, rfl⟩
    rw [e1.out]
    go_wp2_with fail
    (with_reducible refine (drop_any L i hN.out hlt.out _ c _ (Kd.C_below hr.out (pw_below_drewN (Below.refl _ w) n)) hl.out).mono ?_); rintro e w1 ⟨v', rfl, hv, hb⟩
    obtain ⟨A', c', rfl⟩ := Kd.R_slice hv
    have HV := Aside0.mk hv
    have HB := Aside0.mk hb
    have hc0' : w1.cell? ⟨m, 0, none⟩ = some (.slice A L.length c) := pw_cell_below hb (c_drewN hc0 n)
    have f1' : w1.frozen? ⟨m, 0, none⟩ = false := blk_frozen (blk_below (blk_drewN HH.out.hd n) hb) 0
    have hdl := dropAt_len L i hlt.out
    clear hv hb
    go_upto_region 3 with (fail)
    have HW : Aside0 (RW (w1.setCell ⟨m, 0, none⟩ (.slice A' (dropAt L i).length c')) m (dropAt L i) (.slice A' (dropAt L i).length c')) := ⟨(HH.out.drewN n).lay HB.out HV.out (by have := HH.out.few; omega)⟩
    have HF : Aside0 (Frm (fun b => b = m) w (w1.setCell ⟨m, 0, none⟩ (.slice A' (dropAt L i).length c'))) := ⟨frm_lay (((Frm.refl _ w).drewN n).trans (Frm.of_below HB.out)) _⟩
    have hN3 := Lib.hid (show (dropAt L i).length < 9999 by omega)
    generalize World.setCell _ _ _ = wc at *
    generalize hvc : Value.slice A' (dropAt L i).length c' = vc at *
    generalize dropAt L i = L2 at *
    clear hc0 hr hl HH f1 hc0' f1' HV HB hvc hdl
    obtain ⟨A2, c2, e2, hl2, hr2⟩ := Kd.R_reads HW.out.row
    have hcw := HW.out.c0
    rw [e2] at hcw HW
    have HR2 := Aside0.mk hr2
    have HL2 := Lib.hid hl2
    have hN2 := Lib.hid (show L2.length ≤ 1000000 by have := HW.out.few; omega)
    clear e2 hr2 hl2
    go_wp2_with (first | ((with_reducible refine gate_dst (N := 25) rfl ?_); refine Kd.R_lit k98 _ 98 ?hg (N := 25) ?hd (xs := ([] : List S98)) (inner := []) (ok := fun _ => True) (okp := fun _ => True) ?hr ?hp (fun _ hk => hk) trivial (Below.refl _ _) (Nat.le_refl _) (by simp) ?_; (case hd => rfl); (case hg => rfl); (case hr => first | (go_simp; done) | (go_simp; rfl)); (case hp => exact (Reps.none _ _)); intro v1 w1 hv1 hb1 hg1 hx1; have HV1 := Aside0.mk hv1; have HB1 := Aside0.mk hb1; have hc1b := pw_cell_below hb1 hcw; clear hv1 hb1 hg1 hx1) | (at_builtin; refine Kd.R_append_rows k98 _ rfl (.tmp 25) (.tmp 29) 29 98 (.agg #[(.string ⟨#[]⟩), (.int .i64 0), (.int .i64 0)]) 32 rfl Try.underlying29 info98 rfl (by decide) (by omega) v1 ([] : List S98) L2 A2 L2.length c2 (fun _ => True) (fun _ => False) rfl rfl HV1.out (Kd.C_below HR2.out HB1.out) (fun y cs hy => by rw [k98_open hy]; exact k98_mkM _ _ _ _) (fun _ h => h.elim) (fun _ _ => trivial) HB1.out HB1.out.size (by have := hN2.out; simp only [List.length_nil]; omega) ?_; intro v2 w2 hv2 hb2 hg2 hx2; have HV2 := Aside0.mk hv2; have HB2 := Aside0.mk hb2; have HS2 := Aside0.mk hg2.size; clear hv2 hb2 hg2 hx2) | (at_builtin; refine Kd.R_append k98 _ rfl (.tmp 30) (.tmp 34) 29 98 (.agg #[(.string ⟨#[]⟩), (.int .i64 0), (.int .i64 0)]) 32 rfl Try.underlying29 info98 rfl (by decide) (by omega) v2 (([] : List S98) ++ L2) ⟨k, 0, t⟩ [.string k, .int .i64 0, .int .i64 t] (fun _ => True) (fun _ => False) rfl rfl (k98_mkM _ _ _ _) (fun _ h => h.elim) (fun _ _ => trivial) HV2.out HB2.out HB2.out.size (by have := hN2.out; simp only [List.nil_append]; omega) ?_; intro v3 w3 hv3 hb3 hg3 hx3; obtain ⟨A3, c3, rfl⟩ := Kd.R_slice hv3; have HV3 := Aside0.mk hv3; have HB3 := Aside0.mk hb3; have hc1d := pw_cell_below hb3 hcw; have f1d := blk_frozen (blk_below HW.out.hd hb3) 0; clear hv3 hb3 hg3 hx3))
    go_end0
    have hv := HV3.out
    rw [List.nil_append] at hv
    have hlen : (L2 ++ [(⟨k, 0, t⟩ : S98)]).length = L2.length + 1 := by simp
    rw [hlen] at hv
    exact ⟨rfl, ⟨_, by rw [show putW L k t = L2 ++ [⟨k, 0, t⟩] from by unfold putW; rw [HD.out]]; exact HW.out.lay HB3.out hv (by rw [hlen]; have := hN3.out; omega)⟩, frm_lay (HF.out.trans (Frm.of_below HB3.out)) _⟩
end Go.Proofs.Ytjgoddieamphpaa.Wh
namespace Go.Proofs.Ytjgoddieamphpaa.Wh
open Go.RowKit Go.Sort Go.Proofs.YtjgoddieamphpaaW.PrintWords Go.Proofs.YtjgoddieamphpaaW.PrintLast Heap Go.Proofs.Ytjgoddieamphpaa.Obj Go.Proofs.Ytjgoddieamphpaa.PWheelActs
set_option maxRecDepth 100000
set_option linter.unusedVariables false
/-! What ends first, and what falls due. -/
def lessK (a b : KV) : Bool := decide (a.2 < b.2) || (decide (a.2 = b.2) && bl a.1 b.1)
theorem lessK_irr (a : KV) : lessK a a = false := lessI_wo.irr (0, a)
theorem lessK_tr (a b c : KV) : lessK a b = true → lessK b c = true → lessK a c = true := lessI_wo.tr (0, a) (0, b) (0, c)
theorem lessK_ntr (a b c : KV) : lessK a b = false → lessK b c = false → lessK a c = false := lessI_wo.ntr (0, a) (0, b) (0, c)
theorem lessK_anti {a b : KV} (h : lessK a b = false) (k : lessK b a = false) : a = b := by
  have e : ∀ x y : KV, lessK x y = false ↔ ¬ (x.2 < y.2 ∨ x.2 = y.2 ∧ x.1.data.toList < y.1.data.toList) := fun x y => by
    unfold lessK
    rw [← Bool.not_eq_true]
    simp only [Bool.or_eq_true, Bool.and_eq_true, decide_eq_true_eq, bl_iff]
  rw [e] at h k
  have h1 : a.2 = b.2 := by
    by_cases q1 : a.2 < b.2
    · exact absurd (.inl q1) h
    · by_cases q2 : b.2 < a.2
      · exact absurd (.inl q2) k
      · omega
  have h2 : a.1.data.toList = b.1.data.toList := List.le_antisymm (List.not_lt.1 fun q => k (.inr ⟨h1.symm, q⟩)) (List.not_lt.1 fun q => h (.inr ⟨h1, q⟩))
  obtain ⟨⟨⟨x⟩⟩, s⟩ := a
  obtain ⟨⟨⟨y⟩⟩, t⟩ := b
  have h2 : x = y := h2
  have h1 : s = t := h1
  rw [h1, h2]
def IsFirst (K : List KV) (x : KV) : Prop := x ∈ K ∧ ∀ y ∈ K, lessK y x = false
theorem IsFirst.uniq {K L : List KV} {x y : KV} (h : IsFirst K x) (k : IsFirst L y) (hp : K.Perm L) : x = y := lessK_anti (k.2 x (hp.mem_iff.1 h.1)) (h.2 y (hp.mem_iff.2 k.1))
inductive Dues (now : Int) : Nat → List KV → List ByteArray → List KV → Prop
  | full (K : List KV) : Dues now 0 K [] K
  | none (m : Nat) : Dues now (m + 1) [] [] []
  | later (m : Nat) (K : List KV) (x : KV) : IsFirst K x → now < x.2 → Dues now (m + 1) K [] K
  | one (m : Nat) (K K1 K2 : List KV) (x : KV) (out : List ByteArray) : IsFirst K x → x.2 ≤ now → K1.Perm (dropK K x.1) → Dues now m K1 out K2 → Dues now (m + 1) K (x.1 :: out) K2
theorem Dues.uniq {now : Int} {m : Nat} {K K1 : List KV} {o : List ByteArray} (h : Dues now m K o K1) : ∀ {L L1 : List KV} {o' : List ByteArray}, Dues now m L o' L1 → K.Perm L → o = o' ∧ K1.Perm L1 := by
  induction h with
  | full K =>
    intro L L1 o' k hp
    cases k
    exact ⟨rfl, hp⟩
  | none m =>
    intro L L1 o' k hp
    have hL : L = [] := hp.symm.eq_nil
    subst hL
    cases k with
    | none => exact ⟨rfl, List.Perm.refl _⟩
    | later => exact absurd (‹IsFirst [] _› : IsFirst [] _).1 (by simp)
    | one => exact absurd (‹IsFirst [] _› : IsFirst [] _).1 (by simp)
  | later m K x h1 h2 =>
    intro L L1 o' k hp
    cases k with
    | none => exact absurd (hp.eq_nil ▸ h1.1) (by simp)
    | later => exact ⟨rfl, hp⟩
    | one => have e := IsFirst.uniq (L := L) h1 (by assumption) hp; subst e; omega
  | one m K K1 K2 x out h1 h2 h3 h4 ih =>
    intro L L1 o' k hp
    cases k with
    | none => exact absurd (hp.eq_nil ▸ h1.1) (by simp)
    | later => have e := IsFirst.uniq (L := L) h1 (by assumption) hp; subst e; omega
    | one =>
      have e := IsFirst.uniq (L := L) h1 (by assumption) hp
      subst e
      obtain ⟨e1, e2⟩ := ih (by assumption) (h3.trans ((dropK_perm hp _).trans (List.Perm.symm (by assumption))))
      exact ⟨by rw [e1], e2⟩
/-- The row's first. -/
def cu (c : S98) : KV := (c.f0, c.f2)
def kvU (L : List S98) : List KV := L.map cu
def ku' (L : List S98) (i : Nat) : KV := cu (L.getD i z98)
theorem ku_mem (L : List S98) (i : Nat) (hi : i < L.length) : ku' L i ∈ kvU L := by
  unfold ku' kvU
  rw [List.getD_eq_getElem?_getD, List.getElem?_eq_getElem hi]
  exact List.mem_map.2 ⟨_, List.getElem_mem hi, rfl⟩
theorem mem_ku (L : List S98) (x : KV) (hx : x ∈ kvU L) : ∃ i, i < L.length ∧ x = ku' L i := by
  obtain ⟨c, hc, rfl⟩ := List.mem_map.1 hx
  obtain ⟨i, hi, rfl⟩ := List.mem_iff_getElem.1 hc
  refine ⟨i, hi, ?_⟩
  unfold ku'
  rw [List.getD_eq_getElem?_getD, List.getElem?_eq_getElem hi]; rfl
theorem before_f (a b : S98) : turncockref20_before.f a.f0 a.f1 a.f2 b.f0 b.f1 b.f2 = some (lessK (cu a) (cu b)) := by
  unfold turncockref20_before.f lessK cu
  by_cases h1 : a.f2 < b.f2
  · rw [if_pos h1, decide_eq_true h1]; rfl
  · rw [if_neg h1, decide_eq_false h1]
    by_cases h2 : a.f2 = b.f2
    · rw [if_pos h2, decide_eq_true h2]; rfl
    · rw [if_neg h2, decide_eq_false h2]; rfl
theorem first_l0 (L : List S98) (hN : L.length ≤ 1000000) : ∀ d i k j, i + d = L.length → d < k → j < i → (∀ q, q < i → lessK (ku' L q) (ku' L j) = false) → ∃ r : Nat, turncockref20_first.l0 k L (j : Int) (i : Int) = some (r : Int) ∧ r < L.length ∧ ∀ q, q < L.length → lessK (ku' L q) (ku' L r) = false
  | 0, i, k, j, hd, hk, hj, hm => by
    obtain ⟨k, rfl⟩ : ∃ m, k = m + 1 := ⟨k - 1, by omega⟩
    simp only [turncockref20_first.l0]
    rw [if_neg (by omega)]
    exact ⟨j, rfl, by omega, fun q hq => hm q (by omega)⟩
  | d + 1, i, k, j, hd, hk, hj, hm => by
    obtain ⟨k, rfl⟩ : ∃ m, k = m + 1 := ⟨k - 1, by omega⟩
    simp only [turncockref20_first.l0]
    have ei : rd_T98 L (i : Int) = L.getD i z98 := by unfold rd_T98; rw [Int.toNat_natCast]
    have ej : rd_T98 L (j : Int) = L.getD j z98 := by unfold rd_T98; rw [Int.toNat_natCast]
    rw [if_pos (by omega), if_neg (by omega), if_pos (by omega), if_pos (by omega), if_pos (by omega), ei, ej, before_f, Option.bind_some, show wrap64 ((i : Int) + 1) = ((i + 1 : Nat) : Int) from by unfold wrap64; omega]
    cases hl : lessK (cu (L.getD i z98)) (cu (L.getD j z98)) with
    | true =>
      rw [if_pos rfl]
      refine first_l0 L hN d (i + 1) k i (by omega) (by omega) (by omega) (fun q hq => ?_)
      by_cases e : q = i
      · subst e; exact lessK_irr _
      · have h1 := hm q (by omega)
        have h2 : lessK (ku' L j) (ku' L i) = false := by
          cases h3 : lessK (ku' L j) (ku' L i) with
          | false => rfl
          | true => have := lessK_tr _ _ _ hl h3; rw [show ku' L i = cu (L.getD i z98) from rfl, lessK_irr] at this; cases this
        exact lessK_ntr _ _ _ h1 h2
    | false =>
      rw [if_neg (by decide)]
      refine first_l0 L hN d (i + 1) k j (by omega) (by omega) (by omega) (fun q hq => ?_)
      by_cases e : q = i
      · subst e; exact hl
      · exact hm q (by omega)
theorem first_some (L : List S98) (hN : L.length ≤ 1000000) (h0 : 0 < L.length) : ∃ r : Nat, turncockref20_first.f (L.length + 1) L = some (r : Int) ∧ r < L.length ∧ IsFirst (kvU L) (ku' L r) := by
  unfold turncockref20_first.f
  simp only [turncockref20_first.l0]
  rw [if_pos (by omega), if_pos (by omega), show wrap64 ((0 : Int) + 1) = ((1 : Nat) : Int) from by unfold wrap64; omega]
  have h00 : ∀ q, q < 1 → lessK (ku' L q) (ku' L 0) = false := fun q hq => by
    have e : q = 0 := by omega
    subst e
    exact lessK_irr _
  obtain ⟨r, h1, h2, h3⟩ := first_l0 L hN (L.length - 1) 1 L.length 0 (by omega) (by omega) (by omega) h00
  exact ⟨r, h1, h2, ku_mem L r h2, fun y hy => by obtain ⟨i, hi, rfl⟩ := mem_ku L y hy; exact h3 i hi⟩
theorem first_none : turncockref20_first.f 1 [] = some (-1) := by
  unfold turncockref20_first.f
  simp [turncockref20_first.l0]
/-- The document's Next. -/
theorem rwnext_none {w : World} {m : Nat} {v : Value} (h : RW w m [] v) :
    Calls Try.prog 35 #[.pointer (some ⟨m, 0, none⟩)] w fun e w' => e = .returned (.tuple #[.string ⟨#[]⟩, .int .i64 0, .bool false]) ∧ (∃ v', RW w' m [] v') ∧ Frm (fun _ => False) w w' := by
  obtain ⟨A, c, rfl, hl, hr⟩ := Kd.R_reads h.row
  have hc0 := h.c0
  have hr := Aside0.mk hr
  have hl := Lib.hid hl
  have HH := Aside0.mk h
  clear h
  go_enter Try.func35, Try.ntmps35
  go_wp2_with fail
  (with_reducible refine (show Calls Try.prog 74 #[.slice A 0 c] _ _ from turncockref20_first.calls 1 A c [] (-1) _ hr.out hl.out first_none).mono ?_); rintro e w' ⟨rfl, hb⟩
  have HB := Aside0.mk hb
  clear hb
  go_wp2
  go_ret3
  exact ⟨rfl, ⟨_, HH.out.frm (Frm.of_below (F := fun _ => False) HB.out) (fun _ _ _ hf => hf.elim)⟩, Frm.of_below HB.out⟩
theorem rwnext_some {w : World} {m : Nat} {L : List S98} {v : Value} (h : RW w m L v) (h0 : 0 < L.length) :
    Calls Try.prog 35 #[.pointer (some ⟨m, 0, none⟩)] w fun e w' => ∃ x, IsFirst (kvU L) x ∧ e = .returned (.tuple #[.string x.1, .int .i64 x.2, .bool true]) ∧ (∃ v', RW w' m L v') ∧ Frm (fun _ => False) w w' := by
  obtain ⟨A, c, rfl, hl, hr⟩ := Kd.R_reads h.row
  have hc0 := h.c0
  obtain ⟨r, hf, hrl, hff⟩ := first_some L (by have := h.few; omega) h0
  obtain ⟨ad, rfl, q0, q1, q2⟩ := at_T98 hr (r : Int) (by omega) (by omega)
  have er : rd_T98 L (r : Int) = L.getD r z98 := by unfold rd_T98; rw [Int.toNat_natCast]
  rw [er, Int.toNat_natCast] at q0 q1 q2
  have g1 : decide ((r : Int) < 0) = false := decide_eq_false (by omega)
  obtain ⟨kx, hkx⟩ : ∃ kx, kx = (L.getD r z98).f0 := ⟨_, rfl⟩
  obtain ⟨tx, htx⟩ : ∃ tx, tx = (L.getD r z98).f2 := ⟨_, rfl⟩
  rw [← hkx] at q0
  rw [← htx] at q2
  have hff : IsFirst (kvU L) (kx, tx) := by rw [hkx, htx]; exact hff
  have Q0 := Lib.hid q0
  have Q2 := Lib.hid q2
  have HF := Lib.hid hf
  have HI := Lib.hid hff
  have hr := Aside0.mk hr
  have hl := Lib.hid hl
  have HH := Aside0.mk h
  clear h hf hff hkx htx er q0 q1 q2
  go_enter Try.func35, Try.ntmps35
  go_wp2_with fail
  (with_reducible refine (turncockref20_first.calls (L.length + 1) (some ad) c L r _ hr.out hl.out HF.out).mono ?_); rintro e w' ⟨rfl, hb⟩
  have HB := Aside0.mk hb
  have p0 := pw_cell_below hb Q0.out
  have p2 := pw_cell_below hb Q2.out
  have pc := pw_cell_below hb hc0
  clear hb
  go_wp2
  go_quiet (fail)
  go_wp2
  go_ret3
  exact ⟨(kx, tx), HI.out, rfl, ⟨_, (HH.out.frm (Frm.of_below (F := fun _ => False) HB.out) (fun _ _ _ hf => hf.elim)).drewN _⟩, (Frm.of_below HB.out).drewN _⟩
end Go.Proofs.Ytjgoddieamphpaa.Wh
namespace Go.Proofs.Ytjgoddieamphpaa.Wh
open Go.RowKit Go.Sort Go.Proofs.YtjgoddieamphpaaW.PrintWords Go.Proofs.YtjgoddieamphpaaW.PrintLast Heap Go.Proofs.Ytjgoddieamphpaa.Obj Go.Proofs.Ytjgoddieamphpaa.PWheelActs
set_option maxRecDepth 100000
set_option linter.unusedVariables false
theorem info_str : (Try.prog.info? 9).map (fun i => (i.zero, i.size, i.bytes)) = some (some (.string ⟨#[]⟩), 1, 16) := by kernel_rfl
/-- A row of texts of the call's own stays while elder blocks are written. -/
theorem rowS_frm {w w1 : World} {base : Nat} {v : Value} {o : List ByteArray} {F : Nat → Prop} (h : Kd.R Kd.string 9 w base (fun _ => True) v o) (k : Frm F w w1) (hF : ∀ b, F b → b < base) : Kd.R Kd.string 9 w1 base (fun _ => True) v o := by
  refine Kd.R_mono (Kd.R_step (Kd.R_bound h) ?_) (fun _ _ => trivial)
  rintro b ⟨_, hb, _⟩ hlt
  exact k.block b hlt fun hf => by have := hF b hf; omega
/-- A wheel while what is due is taken out. -/
structure DU (w0 w : World) (p mb : Nat) (v0 : Value) (xs : List It) (v : Value) (ys : List It) (D : DataW Unit) (vo : Value) (o : List ByteArray) (now : Int) (m : Nat) : Prop where
  s : WS w p mb v ys D
  own : ∀ b, FO p mb v ys b → FO p mb v0 xs b
  row : Kd.R Kd.string 9 w w0.heap.size (fun _ => True) vo o
  f : Frm (FO p mb v0 xs) w0 w
  le : o.length ≤ m
  le2 : o.length + ys.length ≤ xs.length
  go : ∀ q K, Dues now (m - o.length) (kv ys) q K → Dues now m (kv xs) (o ++ q) K
section
variable {w0 w w1 : World} {p mb : Nat} {v0 v : Value} {xs ys : List It} {D : DataW Unit} {vo : Value} {o : List ByteArray} {now : Int} {m : Nat}
theorem DU.drewN (h : DU w0 w p mb v0 xs v ys D vo o now m) (n : Nat) : DU w0 (w.drewN n) p mb v0 xs v ys D vo o now m := ⟨h.s.drewN n, h.own, Kd.R_move h.row (fun _ _ => rfl), h.f.drewN n, h.le, h.le2, h.go⟩
theorem first_is (h : WS w p mb v ys D) (h0 : 0 < ys.length) : IsFirst (kv ys) (el z0 ys 0).2 := by
  refine ⟨List.mem_map.2 ⟨_, el_mem ys 0 h0, rfl⟩, fun y hy => ?_⟩
  obtain ⟨x, hx, rfl⟩ := List.mem_map.1 hy
  obtain ⟨i, hi, rfl⟩ := List.mem_iff_getElem.1 hx
  have h1 := h.ok.root lessI_wo i hi
  have h2 := el_at (z := z0) ys i hi
  rw [List.getElem?_eq_getElem hi] at h2
  injection h2 with h2
  rw [h2]
  exact h1
/-- One is taken out. -/
theorem DU.next (h : DU w0 w p mb v0 xs v ys D vo o now m) (hw : ∀ b, FO p mb v0 xs b → b < w0.heap.size) (hm : o.length < m) (h0 : 0 < ys.length) (hd : (el z0 ys 0).2.2 ≤ now) {v' : Value} {zs : List It} {D' : DataW Unit} {w1 : World} (s : WS w1 p mb v' zs D') (hp : (kv zs).Perm (dropK (kv ys) (el z0 ys 0).2.1)) (ho : ∀ b, FO p mb v' zs b → FO p mb v ys b) (hf : Frm (FO p mb v ys) w w1) (hl : zs.length < ys.length) :
    WS w1 p mb v' zs D' ∧ (∀ b, FO p mb v' zs b → FO p mb v0 xs b) ∧ Kd.R Kd.string 9 w1 w0.heap.size (fun _ => True) vo o ∧ Frm (FO p mb v0 xs) w0 w1 ∧ o.length + 1 ≤ m ∧ o.length + 1 + zs.length ≤ xs.length ∧ ∀ q K, Dues now (m - (o.length + 1)) (kv zs) q K → Dues now m (kv xs) ((o ++ [(el z0 ys 0).2.1]) ++ q) K := by
  refine ⟨s, fun b hb => h.own b (ho b hb), rowS_frm h.row hf (fun b hb => hw b (h.own b hb)), h.f.trans (hf.mono fun b _ hb => h.own b hb), by omega, by have := h.le2; omega, fun q K hq => ?_⟩
  have h2 : Dues now (m - o.length) (kv ys) ((el z0 ys 0).2.1 :: q) K := by
    rw [show m - o.length = (m - (o.length + 1)) + 1 by omega]
    exact .one _ _ _ _ _ _ (first_is h.s h0) hd hp hq
  have h3 := h.go _ _ h2
  rw [List.append_assoc]
  exact h3
theorem DU.app {w3 w4 : World} {zs : List It} {D3 : DataW Unit} {v3 vo4 : Value} {k : ByteArray} (hN : WS w3 p mb v3 zs D3 ∧ (∀ b, FO p mb v3 zs b → FO p mb v0 xs b) ∧ Kd.R Kd.string 9 w3 w0.heap.size (fun _ => True) vo o ∧ Frm (FO p mb v0 xs) w0 w3 ∧ o.length + 1 ≤ m ∧ o.length + 1 + zs.length ≤ xs.length ∧ ∀ q K, Dues now (m - (o.length + 1)) (kv zs) q K → Dues now m (kv xs) ((o ++ [k]) ++ q) K)
    (hw : ∀ b, FO p mb v0 xs b → b < w0.heap.size) (hr4 : Kd.R Kd.string 9 w4 w0.heap.size (fun _ => True) vo4 (o ++ [k])) (hg : w3.grownBy w4 vo.ownBlock) : DU w0 w4 p mb v0 xs v3 zs D3 vo4 (o ++ [k]) now m := by
  obtain ⟨n1, n2, n3, n4, n5, n6, n7⟩ := hN
  have hf : Frm (fun j => some j = vo.ownBlock) w3 w4 := ⟨hg.os, hg.tape, hg.output, hg.size, fun j hj hn => hg.block j hj hn⟩
  have hb : ∀ j, some j = vo.ownBlock → w0.heap.size ≤ j := fun j hj => ((Kd.R_bound n3).1 j hj.symm).2.1
  refine ⟨n1.frm hf (fun b h1 h2 => by have := hw b (n2 b h1); have := hb b h2; omega), n2, hr4, n4.then hf (fun i hi hk => by have := hb i hk; omega), by simp; omega, by simp; omega, fun q K hq => ?_⟩
  rw [List.length_append] at hq
  exact n7 q K hq
end
set_option maxHeartbeats 2000000 in
theorem wdue_any {w : World} {p mb : Nat} {v : Value} {xs : List It} {D : DataW Unit} (h : WS w p mb v xs D) (now most : Int) : Calls Try.prog 32 #[.pointer (some ⟨p, 0, none⟩), .int .i64 now, .int .i64 most] w fun e w' => ∃ A c o v' ys D', e = .returned (.slice A o.length c) ∧ Kd.R Kd.string 9 w' w.heap.size (fun _ => True) (.slice A o.length c) o ∧ WS w' p mb v' ys D' ∧ (∀ b, FO p mb v' ys b → FO p mb v xs b) ∧ Frm (FO p mb v xs) w w' ∧ Dues now most.toNat (kv xs) o (kv ys) := by
  have hlen := h.r.few
  have HW := Lib.hid (fun b hb => h.own_lt b hb)
  have H := Aside0.mk h
  clear h
  go_enter Try.func32, Try.ntmps32
  go_wp2
  go_loopg [7] xs.length (fun kq v7 wr => ∃ (A : Option Addr) (c : Nat) (o : List ByteArray) (v' : Value) (ys : List It) (D' : DataW Unit), v7 = .slice A o.length c ∧ Aside0 (kq + o.length = xs.length) ∧ Aside0 (DU w wr p mb v xs v' ys D' (.slice A o.length c) o now most.toNat))
  case atStart => exact ⟨none, 0, [], v, xs, D, rfl, ⟨by simp⟩, ⟨H.out, fun b hb => hb, Kd.R_nil _ _ _ _ _, Frm.refl _ _, Nat.zero_le _, by simp, fun q K hq => hq⟩⟩
  case round =>
    clear H
    obtain ⟨A, c, o, v', ys, D', rfl, HK, HU⟩ := hrel
    have hol := HU.out.le2
    by_cases hm : o.length < most.toNat
    · have z1 : decide ((o.length : Int) < most) = true := decide_eq_true (by omega)
      by_cases h0 : ys.length = 0
      · go_wp2_with fail
        (with_reducible refine (wnext_none HU.out.s h0).mono ?_); rintro e w2 ⟨rfl, n, rfl⟩
        go_wp2
        go_ret
        refine ⟨A, c, o, v', ys, D', rfl, (HU.out.drewN _).row, (HU.out.drewN _).s, HU.out.own, (HU.out.drewN _).f, ?_⟩
        have hy : ys = [] := List.eq_nil_of_length_eq_zero h0
        have h1 := HU.out.go [] (kv ys) (by subst hy; rw [show most.toNat - o.length = (most.toNat - o.length - 1) + 1 by omega]; exact .none _)
        rw [List.append_nil] at h1
        exact h1
      · obtain ⟨q, hq⟩ : ∃ q, ys.length = q + 1 := ⟨ys.length - 1, by omega⟩
        have hk10 : (el z0 ys 0).2.1.size ≤ 1000 := HU.out.s.ks _ (el_mem ys 0 (by omega))
        have HK10 := Lib.hid hk10
        have HQ := Lib.hid hq
        clear hk10
        by_cases hd : now < (el z0 ys 0).2.2
        · have z2 : decide (now < (el z0 ys 0).2.2) = true := decide_eq_true hd
          have HD := Lib.hid hd
          clear hd
          go_wp2_with fail
          (with_reducible refine (wnext_some HU.out.s q HQ.out).mono ?_); rintro e w2 ⟨rfl, n, rfl⟩
          go_wp2
          go_ret
          refine ⟨A, c, o, v', ys, D', rfl, (HU.out.drewN _).row, (HU.out.drewN _).s, HU.out.own, (HU.out.drewN _).f, ?_⟩
          have h1 := HU.out.go [] (kv ys) (by rw [show most.toNat - o.length = (most.toNat - o.length - 1) + 1 by omega]; exact .later _ _ _ (first_is HU.out.s (by omega)) HD.out)
          rw [List.append_nil] at h1
          exact h1
        · have z2 : decide (now < (el z0 ys 0).2.2) = false := decide_eq_false hd
          have HD := Lib.hid (show (el z0 ys 0).2.2 ≤ now by omega)
          clear hd
          go_wp2_with fail
          (with_reducible refine (wnext_some HU.out.s q HQ.out).mono ?_); rintro e w2 ⟨rfl, n, rfl⟩
          go_wp2_with fail
          (with_reducible refine (wdrop_any (HU.out.s.drewN n) _ HK10.out).mono ?_); rintro e w3 ⟨rfl, v3, zs, D3, hs3, hp3, hn3, ho3, hf3, hl3⟩
          have hzl : zs.length < ys.length := by
            have h1 := hp3.length_eq
            have h2 : (dropK (kv ys) (el z0 ys 0).2.1).length < (kv ys).length := by
              unfold dropK
              refine List.length_filter_lt_length_iff_exists.2 ⟨(el z0 ys 0).2, List.mem_map.2 ⟨_, el_mem ys 0 (by omega), rfl⟩, by simp⟩
            unfold kv at h1 h2
            simp only [List.length_map] at h1 h2
            omega
          have hnx := (HU.out.drewN n).next HW.out hm (by omega) HD.out hs3 hp3 ho3 hf3 hzl
          have HN := Aside0.mk hnx
          have HR3 := Aside0.mk hnx.2.2.1
          have hol3 := hnx.2.2.2.2.2.1
          have hsz3 := Lib.hid (hnx.2.2.2.1.size)
          clear hs3 hp3 hn3 ho3 hf3 hl3 hzl hnx
          go_wp2_with (first | (at_builtin; refine Kd.R_append Kd.string _ rfl (.tmp 31) (.tmp 33) 22 9 (.string ⟨#[]⟩) 16 rfl Try.underlying22 info_str rfl (by decide) (by omega) (.slice A o.length c) o (el z0 ys 0).2.1 [.string (el z0 ys 0).2.1] (fun _ => True) (fun _ => False) rfl rfl rfl (fun _ h => h.elim) (fun _ _ => trivial) HR3.out (Below.refl _ _) hsz3.out (by omega) ?_; intro v4 w4 hv4 hb4 hg4 hx4; obtain ⟨A4, c4, e4⟩ := Kd.R_slice hv4; subst e4; have HV4 := Aside0.mk hv4; have HG4 := Aside0.mk hg4; clear hv4 hb4 hg4 hx4))
          go_wp2
          go_roundg (gk - 1)
          case measure => have := HK.out; omega
          case rel => exact ⟨A4, c4, o ++ [(el z0 ys 0).2.1], v3, zs, D3, by simp, ⟨by have := HK.out; simp; omega⟩, ⟨DU.app HN.out HW.out (by simpa using HV4.out) HG4.out⟩⟩
    · have z1 : decide ((o.length : Int) < most) = false := decide_eq_false (by omega)
      go_wp2
      go_ret
      refine ⟨A, c, o, v', ys, D', rfl, HU.out.row, HU.out.s, HU.out.own, HU.out.f, ?_⟩
      have h1 := HU.out.go [] (kv ys) (by rw [show most.toNat - o.length = 0 by omega]; exact .full _)
      rw [List.append_nil] at h1
      exact h1
end Go.Proofs.Ytjgoddieamphpaa.Wh
namespace Go.Proofs.Ytjgoddieamphpaa.Wh
open Go.RowKit Go.Sort Go.Proofs.YtjgoddieamphpaaW.PrintWords Go.Proofs.YtjgoddieamphpaaW.PrintLast Heap Go.Proofs.Ytjgoddieamphpaa.Obj Go.Proofs.Ytjgoddieamphpaa.PWheelActs
set_option maxRecDepth 100000
set_option linter.unusedVariables false
theorem dropAt_map {β : Type} (f : S98 → β) (L : List S98) (i : Nat) : (dropAt L i).map f = (L.map f).take i ++ (L.map f).drop (i + 1) := by
  unfold dropAt; rw [List.map_append, List.map_take, List.map_drop]
theorem perm_dropAt (L : List S98) (i : Nat) (hi : i < L.length) : L.Perm (L.getD i z98 :: dropAt L i) := by
  have e : L.getD i z98 = L[i] := by rw [List.getD_eq_getElem?_getD, List.getElem?_eq_getElem hi]; rfl
  unfold dropAt
  rw [e]
  have h1 : L = L.take i ++ L[i] :: L.drop (i + 1) := by rw [← List.drop_eq_getElem_cons hi, List.take_append_drop]
  exact (List.Perm.of_eq h1).trans List.perm_middle
theorem kvU_dropAt (L : List S98) (hn : (L.map (·.f0)).Nodup) (i : Nat) (hi : i < L.length) : (kvU (dropAt L i)).Perm (dropK (kvU L) (L.getD i z98).f0) := by
  have h1 := (perm_dropAt L i hi).map cu
  have h2 := dropK_perm h1 (L.getD i z98).f0
  have h3 : ((L.getD i z98 :: dropAt L i).map (·.f0)).Nodup := ((perm_dropAt L i hi).map _).nodup_iff.1 hn
  rw [List.map_cons, List.nodup_cons] at h3
  have h4 : dropK ((L.getD i z98 :: dropAt L i).map cu) (L.getD i z98).f0 = kvU (dropAt L i) := by
    rw [List.map_cons]
    refine dropK_cons (t := (L.getD i z98).f2) (fun c hc e => h3.1 ?_)
    obtain ⟨d, hd, rfl⟩ := List.mem_map.1 hc
    rw [← e]
    exact List.mem_map.2 ⟨d, hd, rfl⟩
  rw [h4] at h2
  exact h2.symm
theorem dropAt_nodup (L : List S98) (hn : (L.map (·.f0)).Nodup) (i : Nat) (hi : i < L.length) : ((dropAt L i).map (·.f0)).Nodup := by
  have h3 : ((L.getD i z98 :: dropAt L i).map (·.f0)).Nodup := ((perm_dropAt L i hi).map _).nodup_iff.1 hn
  rw [List.map_cons, List.nodup_cons] at h3
  exact h3.2
/-- The document's wheel while what is due is taken out. -/
structure RD (w0 w : World) (m : Nat) (L0 L : List S98) (v vo : Value) (o : List ByteArray) (now : Int) (q : Nat) : Prop where
  s : RW w m L v
  row : Kd.R Kd.string 9 w w0.heap.size (fun _ => True) vo o
  f : Frm (fun b => b = m) w0 w
  nd : (L.map (·.f0)).Nodup
  le : o.length ≤ q
  le2 : o.length + L.length = L0.length
  go : ∀ r K, Dues now (q - o.length) (kvU L) r K → Dues now q (kvU L0) (o ++ r) K
section
variable {w0 w w1 : World} {m : Nat} {L0 L : List S98} {v vo : Value} {o : List ByteArray} {now : Int} {q : Nat}
theorem RD.below (h : RD w0 w m L0 L v vo o now q) (hb : Below w.heap.size w w1) : RD w0 w1 m L0 L v vo o now q :=
  ⟨h.s.frm (Frm.of_below (F := fun _ => False) hb) (fun _ _ _ hf => hf.elim), Kd.R_below h.row hb, h.f.trans (Frm.of_below hb), h.nd, h.le, h.le2, h.go⟩
theorem RD.drewN (h : RD w0 w m L0 L v vo o now q) (n : Nat) : RD w0 (w.drewN n) m L0 L v vo o now q := ⟨h.s.drewN n, Kd.R_move h.row (fun _ _ => rfl), h.f.drewN n, h.nd, h.le, h.le2, h.go⟩
theorem RD.out_type (h : RD w0 w m L0 L v vo o now q) : ∀ b cs t, some b = vo.ownBlock → w.heap[b]? = some (.cells cs t (0, 0)) → t ≠ 51 ∧ t ≠ 98 := by
  intro b cs t hb hc
  obtain ⟨_, _, _, q, hq, cells, hc2⟩ := (Kd.R_bound h.row).1 b hb.symm
  have : q = 9 := by simpa [Kd.string, Kd.scalar] using hq
  subst this
  rw [hc] at hc2
  injection hc2 with hc2
  injection hc2 with _ h2 _
  subst h2
  exact ⟨by decide, by decide⟩
/-- The row of texts has grown by one, the table not yet shrunk. -/
structure RD2 (w0 w : World) (m : Nat) (L0 L : List S98) (v vo : Value) (o : List ByteArray) (k : ByteArray) (now : Int) (q : Nat) : Prop where
  s : RW w m L v
  row : Kd.R Kd.string 9 w w0.heap.size (fun _ => True) vo (o ++ [k])
  f : Frm (fun b => b = m) w0 w
theorem RD.app {vo4 : Value} {k : ByteArray} (h : RD w0 w m L0 L v vo o now q) (hr4 : Kd.R Kd.string 9 w1 w0.heap.size (fun _ => True) vo4 (o ++ [k])) (hg : w.grownBy w1 vo.ownBlock) : RD2 w0 w1 m L0 L v vo4 o k now q := by
  have hf : Frm (fun j => some j = vo.ownBlock) w w1 := ⟨hg.os, hg.tape, hg.output, hg.size, fun j hj hn => hg.block j hj hn⟩
  refine ⟨h.s.frm hf h.out_type, hr4, h.f.then hf (fun i hi hk => ?_)⟩
  have := ((Kd.R_bound h.row).1 i hk.symm).2.1
  omega
theorem RD2.drop {vo4 v' : Value} {k : ByteArray} {w2 : World} {i : Nat} (h0 : RD w0 w m L0 L v vo o now q) (h : RD2 w0 w1 m L0 L v vo4 o k now q) (hm : m < w0.heap.size) (hi : i < L.length) (hk : k = (L.getD i z98).f0) (hq : o.length < q) (hff : IsFirst (kvU L) (ku' L i)) (hd : (L.getD i z98).f2 ≤ now)
    (hv : Kd.R k98 98 w2 w1.heap.size (fun _ => True) v' (dropAt L i)) (hb : Below w1.heap.size w1 w2) : RD w0 (w2.setCell ⟨m, 0, none⟩ v') m L0 (dropAt L i) v' vo4 (o ++ [k]) now q := by
  have hl := dropAt_len L i hi
  refine ⟨h.s.lay hb hv (by have := h.s.few; omega), ?_, (h.f.trans (Frm.of_below hb)).setCell (p := ⟨m, 0, none⟩) (.inl rfl) _, dropAt_nodup L h0.nd i hi, by simp; omega, by have := h0.le2; simp; omega, fun r K hr => ?_⟩
  · exact rowS_frm (Kd.R_below h.row hb) ((Frm.refl (fun b => b = m) w2).setCell (p := ⟨m, 0, none⟩) (.inl rfl) _) (fun b hb => by subst hb; exact hm)
  · rw [List.length_append] at hr
    have h2 : Dues now (q - o.length) (kvU L) (k :: r) K := by
      rw [show q - o.length = (q - (o.length + 1)) + 1 by omega, hk]
      exact .one _ _ _ _ _ _ hff hd (kvU_dropAt L h0.nd i hi) hr
    have h3 := h0.go _ _ h2
    rw [List.append_assoc]
    exact h3
end
set_option maxHeartbeats 2000000 in
theorem rwdue_any {w : World} {m : Nat} {L : List S98} {v : Value} (h : RW w m L v) (hn : (L.map (·.f0)).Nodup) (now most : Int) : Calls Try.prog 33 #[.pointer (some ⟨m, 0, none⟩), .int .i64 now, .int .i64 most] w fun e w' => ∃ A c o v' L', e = .returned (.slice A o.length c) ∧ Kd.R Kd.string 9 w' w.heap.size (fun _ => True) (.slice A o.length c) o ∧ RW w' m L' v' ∧ (L'.map (·.f0)).Nodup ∧ L'.length ≤ L.length ∧ Frm (fun b => b = m) w w' ∧ Dues now most.toNat (kvU L) o (kvU L') := by
  have hlen := h.few
  have hmw := Lib.hid (blk_lt h.hd)
  have HN := Lib.hid hn
  have H := Aside0.mk h
  clear h hn
  go_enter Try.func33, Try.ntmps33
  go_wp2
  go_loopg [7] L.length (fun kq v7 wr => ∃ (A : Option Addr) (c : Nat) (o : List ByteArray) (v' : Value) (L' : List S98), v7 = .slice A o.length c ∧ Aside0 (kq + o.length = L.length) ∧ Aside0 (RD w wr m L L' v' (.slice A o.length c) o now most.toNat))
  case atStart => exact ⟨none, 0, [], v, L, rfl, ⟨by simp⟩, ⟨H.out, Kd.R_nil _ _ _ _ _, Frm.refl _ _, HN.out, Nat.zero_le _, by simp, fun q K hq => hq⟩⟩
  case round =>
    clear H
    obtain ⟨A, c, o, v', L', rfl, HK, HU⟩ := hrel
    have hol := HU.out.le2
    by_cases hm : o.length < most.toNat
    · have z1 : decide ((o.length : Int) < most) = true := decide_eq_true (by omega)
      obtain ⟨AL, cL, rfl, hl, hr⟩ := Kd.R_reads HU.out.s.row
      have hc0 := HU.out.s.c0
      have HR := Aside0.mk hr
      have HLc := Lib.hid hl
      clear hl
      by_cases h0 : L'.length = 0
      · have hy : L' = [] := List.eq_nil_of_length_eq_zero h0
        subst hy
        clear hr
        go_wp2_with fail
        (with_reducible refine (show Calls Try.prog 74 #[.slice AL 0 cL] _ _ from turncockref20_first.calls 1 AL cL [] (-1) _ HR.out HLc.out first_none).mono ?_); rintro e w2 ⟨rfl, hb⟩
        have HU2 := Aside0.mk (HU.out.below hb)
        clear hb
        go_wp2
        go_ret
        refine ⟨A, c, o, _, [], rfl, HU2.out.row, HU2.out.s, HU2.out.nd, by simp, HU2.out.f, ?_⟩
        have h1 := HU.out.go [] (kvU []) (by rw [show most.toNat - o.length = (most.toNat - o.length - 1) + 1 by omega]; exact .none _)
        rw [List.append_nil] at h1
        exact h1
      · obtain ⟨r, hf, hrl, hff⟩ := first_some L' (by omega) (by omega)
        obtain ⟨ad, rfl, q0, q1, q2⟩ := at_T98 hr (r : Int) (by omega) (by omega)
        have er : rd_T98 L' (r : Int) = L'.getD r z98 := by unfold rd_T98; rw [Int.toNat_natCast]
        rw [er, Int.toNat_natCast] at q0 q1 q2
        have g1 : decide ((r : Int) < 0) = false := decide_eq_false (by omega)
        obtain ⟨kx, hkx⟩ : ∃ kx, kx = (L'.getD r z98).f0 := ⟨_, rfl⟩
        obtain ⟨tx, htx⟩ : ∃ tx, tx = (L'.getD r z98).f2 := ⟨_, rfl⟩
        rw [← hkx] at q0
        rw [← htx] at q2
        have Q0 := Lib.hid q0
        have Q2 := Lib.hid q2
        have HF := Lib.hid hf
        have HI := Lib.hid hff
        have HKX := Lib.hid hkx
        have HTX := Lib.hid htx
        have hrl2 := Lib.hid hrl
        clear hf hff hkx htx er q0 q1 q2 hr
        by_cases hd : now < tx
        · have z2 : decide (now < tx) = true := decide_eq_true hd
          have HD := Lib.hid hd
          clear hd
          go_wp2_with fail
          (with_reducible refine (turncockref20_first.calls (L'.length + 1) (some ad) cL L' r _ HR.out HLc.out HF.out).mono ?_); rintro e w2 ⟨rfl, hb⟩
          have HU2 := Aside0.mk (HU.out.below hb)
          have p0 := pw_cell_below hb Q0.out
          have p2 := pw_cell_below hb Q2.out
          have pc := pw_cell_below hb hc0
          clear hb
          go_wp2
          go_ret
          refine ⟨A, c, o, _, L', rfl, (HU2.out.drewN 0).row, HU2.out.s, HU2.out.nd, by omega, HU2.out.f, ?_⟩
          have h1 := HU.out.go [] (kvU L') (by rw [show most.toNat - o.length = (most.toNat - o.length - 1) + 1 by omega]; exact .later _ _ _ HI.out (by have := HD.out; rw [HTX.out] at this; exact this))
          rw [List.append_nil] at h1
          exact h1
        · have z2 : decide (now < tx) = false := decide_eq_false hd
          have HD := Lib.hid (show tx ≤ now by omega)
          clear hd
          go_wp2_with fail
          (with_reducible refine (turncockref20_first.calls (L'.length + 1) (some ad) cL L' r _ HR.out HLc.out HF.out).mono ?_); rintro e w2 ⟨rfl, hb⟩
          have HU2 := Aside0.mk (HU.out.below hb)
          have HR2 := Aside0.mk HU2.out.row
          have hsz2 := Lib.hid HU2.out.f.size
          have p0 := pw_cell_below hb Q0.out
          have p2 := pw_cell_below hb Q2.out
          have pc := pw_cell_below hb hc0
          clear hb
          go_wp2_with (first | (at_builtin; refine Kd.R_append Kd.string _ rfl (.tmp 33) (.tmp 42) 22 9 (.string ⟨#[]⟩) 16 rfl Try.underlying22 info_str rfl (by decide) (by omega) (.slice A o.length c) o kx [.string kx] (fun _ => True) (fun _ => False) rfl rfl rfl (fun _ h => h.elim) (fun _ _ => trivial) HR2.out (Below.refl _ _) hsz2.out (by omega) ?_; intro v4 w4 hv4 hb4 hg4 hx4; obtain ⟨A4, c4, e4⟩ := Kd.R_slice hv4; subst e4; have H4 := Aside0.mk (HU2.out.app hv4 hg4); have pc4 := H4.out.s.c0; have pf4 := blk_frozen H4.out.s.hd 0; clear hv4 hb4 hg4 hx4))
          (with_reducible refine (drop_any L' r (by omega) hrl2.out (some ad) cL _ (Kd.R_reads' H4.out.s.row).2.2 HLc.out).mono ?_); rintro e w5 ⟨v5, rfl, hv5, hb5⟩
          obtain ⟨A5, c5, rfl⟩ := Kd.R_slice hv5
          have pc5 := pw_cell_below hb5 pc4
          have pf5 := blk_frozen (blk_below H4.out.s.hd hb5) 0
          have HV5 := Aside0.mk hv5
          have HB5 := Aside0.mk hb5
          have hdl := dropAt_len L' r hrl2.out
          clear hv5 hb5
          go_wp2
          go_roundg (gk - 1)
          case measure => have := HK.out; omega
          case rel => exact ⟨A4, c4, o ++ [kx], _, dropAt L' r, by simp, ⟨by have := HK.out; simp; omega⟩, ⟨RD2.drop HU2.out H4.out hmw.out hrl2.out HKX.out hm HI.out (by have := HD.out; rw [HTX.out] at this; exact this) HV5.out HB5.out⟩⟩
    · have z1 : decide ((o.length : Int) < most) = false := decide_eq_false (by omega)
      go_wp2
      go_ret
      refine ⟨A, c, o, v', L', rfl, HU.out.row, HU.out.s, HU.out.nd, by omega, HU.out.f, ?_⟩
      have h1 := HU.out.go [] (kvU L') (by rw [show most.toNat - o.length = 0 by omega]; exact .full _)
      rw [List.append_nil] at h1
      exact h1
end Go.Proofs.Ytjgoddieamphpaa.Wh
namespace Go.Proofs.Ytjgoddieamphpaa.Wh
open Go.RowKit Go.Sort Go.Proofs.YtjgoddieamphpaaW.PrintWords Go.Proofs.YtjgoddieamphpaaW.PrintLast Heap Go.Proofs.Ytjgoddieamphpaa.Obj Go.Proofs.Ytjgoddieamphpaa.PWheelActs
set_option maxRecDepth 100000
set_option linter.unusedVariables false
/-- A wheel that holds K, and owns S. -/
def WK (w : World) (S : Nat → Prop) (p : Nat) (K : List KV) : Prop := ∃ mb v xs D, WS w p mb v xs D ∧ (kv xs).Perm K ∧ ∀ b, S b ↔ FO p mb v xs b
def hasK (K : List KV) (k : ByteArray) : Bool := decide (∃ c ∈ K, c.1 = k)
theorem hasK_perm {K L : List KV} (h : K.Perm L) (k : ByteArray) : hasK K k = hasK L k := by
  unfold hasK
  congr 1
  exact propext ⟨fun ⟨c, hc, e⟩ => ⟨c, h.mem_iff.1 hc, e⟩, fun ⟨c, hc, e⟩ => ⟨c, h.mem_iff.2 hc, e⟩⟩
/-- When a key ends. -/
def atK (K : List KV) (k : ByteArray) : Int := ((K.find? fun c => decide (c.1 = k)).map (·.2)).getD 0
theorem atK_of {K : List KV} (hn : (K.map (·.1)).Nodup) {k : ByteArray} {t : Int} (h : (k, t) ∈ K) : atK K k = t := by
  induction K with
  | nil => cases h
  | cons c K ih =>
    rw [List.map_cons, List.nodup_cons] at hn
    unfold atK
    rcases List.mem_cons.1 h with rfl | h
    · rw [List.find?_cons_of_pos (by simp)]; rfl
    · have hne : ¬ c.1 = k := fun e => hn.1 (List.mem_map.2 ⟨(k, t), h, e.symm⟩)
      rw [List.find?_cons_of_neg (by simp [hne])]
      exact ih hn.2 h
theorem atK_none {K : List KV} {k : ByteArray} (h : ∀ c ∈ K, c.1 ≠ k) : atK K k = 0 := by
  unfold atK
  rw [List.find?_eq_none.2 (fun c hc => by simpa using h c hc)]; rfl
theorem Dues.perm {now : Int} {m : Nat} {K K1 L : List KV} {o : List ByteArray} (h : Dues now m K o K1) (hp : K.Perm L) : ∃ L1, Dues now m L o L1 ∧ K1.Perm L1 := by
  cases h with
  | full => exact ⟨L, .full L, hp⟩
  | none => rw [hp.symm.eq_nil]; exact ⟨[], .none _, List.Perm.refl _⟩
  | later => exact ⟨L, .later _ _ _ ⟨hp.mem_iff.1 (‹IsFirst K _› : IsFirst K _).1, fun y hy => (‹IsFirst K _› : IsFirst K _).2 y (hp.mem_iff.2 hy)⟩ ‹_›, hp⟩
  | one => exact ⟨K1, .one _ _ _ _ _ _ ⟨hp.mem_iff.1 (‹IsFirst K _› : IsFirst K _).1, fun y hy => (‹IsFirst K _› : IsFirst K _).2 y (hp.mem_iff.2 hy)⟩ ‹_› (List.Perm.trans ‹_› (dropK_perm hp _)) ‹_›, List.Perm.refl _⟩
section
variable {w w1 : World} {S : Nat → Prop} {p : Nat} {K L : List KV}
theorem WK.perm (h : WK w S p K) (hp : K.Perm L) : WK w S p L := by
  obtain ⟨mb, v, xs, D, h1, h2, h3⟩ := h
  exact ⟨mb, v, xs, D, h1, h2.trans hp, h3⟩
theorem WK.lt (h : WK w S p K) (b : Nat) (hb : S b) : b < w.heap.size := by
  obtain ⟨mb, v, xs, D, h1, h2, h3⟩ := h
  exact h1.own_lt b ((h3 b).1 hb)
theorem WK.type (h : WK w S p K) (b : Nat) (cs : Array Value) (t : TypeId) (hb : S b) (hc : w.heap[b]? = some (.cells cs t (0, 0))) : t = 108 ∨ t = 109 ∨ t = 111 := by
  obtain ⟨mb, v, xs, D, h1, h2, h3⟩ := h
  rcases (h3 b).1 hb with rfl | rfl | e
  · rw [h1.r.hd] at hc; injection hc with hc; injection hc with _ hc _; exact .inl hc.symm
  · obtain ⟨es, c, hm⟩ := h1.m.blk; rw [hm] at hc; cases hc
  · obtain ⟨cs', t', hb', ht⟩ := e.blk h1.r
    rw [hc] at hb'
    injection hb' with hb'
    injection hb' with _ hb' _
    subst hb'
    exact .inr ht
theorem WK.nodup (h : WK w S p K) : (K.map (·.1)).Nodup := by
  obtain ⟨mb, v, xs, D, h1, h2, h3⟩ := h
  refine (h2.map (·.1)).nodup_iff.1 ?_
  have := h1.kn
  unfold kv
  rw [List.map_map]
  exact this
theorem WK.frm (h : WK w S p K) {F : Nat → Prop} (k : Frm F w w1) (hn : ∀ b, S b → ¬ F b) : WK w1 S p K := by
  obtain ⟨mb, v, xs, D, h1, h2, h3⟩ := h
  exact ⟨mb, v, xs, D, h1.frm k (fun b hb => hn b ((h3 b).2 hb)), h2, h3⟩
theorem WK.drewN (h : WK w S p K) (n : Nat) : WK (w.drewN n) S p K := h.frm ((Frm.refl (fun _ => False) w).drewN n) (fun _ _ e => e)
theorem WK.drew (h : WK w S p K) : WK w.drew S p K := h.frm ((Frm.refl (fun _ => False) w).drew) (fun _ _ e => e)
theorem WK.len (h : WK w S p K) : Calls Try.prog 38 #[.pointer (some ⟨p, 0, none⟩)] w fun e w' => e = .returned (.int .i64 (K.length : Nat)) ∧ w = w' := by
  obtain ⟨mb, v, xs, D, h1, h2, h3⟩ := h
  have : xs.length = K.length := by rw [← h2.length_eq]; unfold kv; rw [List.length_map]
  rw [← this]
  exact whlen_any h1
theorem WK.at_ (h : WK w S p K) (k : ByteArray) (hs : k.size ≤ 1000) : Calls Try.prog 36 #[.pointer (some ⟨p, 0, none⟩), .string k] w fun e w' => e = .returned (.tuple #[.int .i64 (atK K k), .bool (hasK K k)]) ∧ w = w' := by
  have hn := h.nodup
  obtain ⟨mb, v, xs, D, h1, h2, h3⟩ := h
  by_cases hy : ∃ y ∈ xs, y.2.1 = k
  · obtain ⟨y, hy, rfl⟩ := hy
    have hm : y.2 ∈ K := h2.mem_iff.1 (List.mem_map.2 ⟨y, hy, rfl⟩)
    rw [atK_of hn (t := y.2.2) hm, show hasK K y.2.1 = true from decide_eq_true ⟨y.2, hm, rfl⟩]
    exact what_hit h1 y hy
  · have hne : ∀ y ∈ xs, y.2.1 ≠ k := fun y h1 e => hy ⟨y, h1, e⟩
    have hne2 : ∀ c ∈ K, c.1 ≠ k := fun c hc => kv_apart hne c (h2.mem_iff.2 hc)
    rw [atK_none hne2, show hasK K k = false from decide_eq_false (fun ⟨c, hc, e⟩ => hne2 c hc e)]
    exact what_miss h1 k hs hne
theorem WK.next_none (h : WK w S p K) (h0 : K.length = 0) : Calls Try.prog 34 #[.pointer (some ⟨p, 0, none⟩)] w fun e w' => e = .returned (.tuple #[.string ⟨#[]⟩, .int .i64 0, .bool false]) ∧ ∃ n, w' = w.drewN n := by
  obtain ⟨mb, v, xs, D, h1, h2, h3⟩ := h
  refine wnext_none h1 ?_
  have := h2.length_eq
  unfold kv at this
  rw [List.length_map] at this
  omega
theorem WK.next_some (h : WK w S p K) (x : KV) (hx : IsFirst K x) : Calls Try.prog 34 #[.pointer (some ⟨p, 0, none⟩)] w fun e w' => e = .returned (.tuple #[.string x.1, .int .i64 x.2, .bool true]) ∧ ∃ n, w' = w.drewN n := by
  obtain ⟨mb, v, xs, D, h1, h2, h3⟩ := h
  have h4 : 0 < xs.length := by
    have := h2.length_eq
    unfold kv at this
    rw [List.length_map] at this
    have := List.length_pos_of_mem hx.1
    omega
  have e := (first_is h1 h4).uniq hx h2
  rw [← e]
  exact wnext_some h1 (xs.length - 1) (by omega)
theorem WK.drop (h : WK w S p K) (k : ByteArray) (hs : k.size ≤ 1000) : Calls Try.prog 29 #[.pointer (some ⟨p, 0, none⟩), .string k] w fun e w' => e = .returned (.bool (hasK K k)) ∧ ∃ S', WK w' S' p (dropK K k) ∧ Frm S w w' ∧ ∀ b, S' b → S b ∨ w.heap.size ≤ b := by
  obtain ⟨mb, v, xs, D, h1, h2, h3⟩ := h
  refine (wdrop_any h1 k hs).mono ?_
  rintro e w' ⟨a, v', ys, D', c1, c2, _, c4, c5, _⟩
  exact ⟨by rw [← hasK_perm h2]; exact a, _, ⟨mb, v', ys, D', c1, c2.trans (dropK_perm h2 k), fun b => Iff.rfl⟩, c5.mono (fun b _ hb => (h3 b).2 hb), fun b hb => .inl ((h3 b).2 (c4 b hb))⟩
theorem WK.put (h : WK w S p K) (k : ByteArray) (hs : k.size ≤ 1000) (t : Int) (hl : K.length < 9999) : Calls Try.prog 27 #[.pointer (some ⟨p, 0, none⟩), .string k, .int .i64 t] w fun e w' => e = .returned (.tuple #[]) ∧ ∃ S', WK w' S' p (dropK K k ++ [(k, t)]) ∧ Frm S w w' ∧ ∀ b, S' b → S b ∨ w.heap.size ≤ b := by
  obtain ⟨mb, v, xs, D, h1, h2, h3⟩ := h
  have h4 : xs.length < 9999 := by
    have := h2.length_eq
    unfold kv at this
    rw [List.length_map] at this
    omega
  refine (wput_any h1 k hs t h4).mono ?_
  rintro e w' ⟨a, v', zs, D', c1, c2, c3, c4⟩
  exact ⟨a, _, ⟨mb, v', zs, D', c1, c2.trans ((dropK_perm h2 k).append_right _), fun b => Iff.rfl⟩, c4.mono (fun b _ hb => (h3 b).2 hb), fun b hb => (c3 b hb).imp (fun h => (h3 b).2 h) id⟩
theorem WK.due (h : WK w S p K) (now most : Int) : Calls Try.prog 32 #[.pointer (some ⟨p, 0, none⟩), .int .i64 now, .int .i64 most] w fun e w' => ∃ A c o K' S', e = .returned (.slice A o.length c) ∧ Kd.R Kd.string 9 w' w.heap.size (fun _ => True) (.slice A o.length c) o ∧ WK w' S' p K' ∧ Frm S w w' ∧ (∀ b, S' b → S b ∨ w.heap.size ≤ b) ∧ Dues now most.toNat K o K' := by
  obtain ⟨mb, v, xs, D, h1, h2, h3⟩ := h
  refine (wdue_any h1 now most).mono ?_
  rintro e w' ⟨A, c, o, v', ys, D', a, c1, c2, c3, c4, c5⟩
  obtain ⟨L1, d1, d2⟩ := c5.perm h2
  exact ⟨A, c, o, L1, _, a, c1, ⟨mb, v', ys, D', c2, d2, fun b => Iff.rfl⟩, c4.mono (fun b _ hb => (h3 b).2 hb), fun b hb => .inl ((h3 b).2 (c3 b hb)), d1⟩
end
theorem wnew_any (w : World) : Calls Try.prog 26 #[] w fun e w' => ∃ p S, e = .returned (.pointer (some ⟨p, 0, none⟩)) ∧ WK w' S p [] ∧ w.heap.size ≤ p ∧ (∀ b, S b → w.heap.size ≤ b) ∧ Frm (fun _ => False) w w' := by
  have hmm := @run_makeMap Try.prog
  go_enter Try.func26, Try.ntmps26
  go_wp2
  go_ret
  have hb1 : ((w.alloc (.map #[] 0)).alloc (.cells #[.slice none 0 0, .map (some w.heap.size)] 108)).heap[w.heap.size + 1]? = some (.cells #[.slice none 0 0, .map (some w.heap.size)] 108 (0, 0)) := by
    have := blk_new (w.alloc (.map #[] 0)) (.cells #[.slice none 0 0, .map (some w.heap.size)] 108)
    simpa using this
  have hm : MapOf ((w.alloc (.map #[] 0)).alloc (.cells #[.slice none 0 0, .map (some w.heap.size)] 108)) w.heap.size [] (.map []) :=
    (MapOf.made w).frm (Below.heap_alloc _ _ _ (by simp))
  refine ⟨w.heap.size + 1, FO (w.heap.size + 1) w.heap.size (.slice none 0 0) [], rfl, ⟨w.heap.size, .slice none 0 0, [], .map [], ⟨⟨hb1, ⟨rfl, .inl ⟨rfl, rfl⟩⟩, (fun i hi => absurd hi (Nat.not_lt_zero i)), List.nodup_nil, Nat.zero_le _⟩, hm, (fun c c0 cn => absurd cn (Nat.not_lt_zero c)), List.nodup_nil, (fun x hx => by cases hx)⟩, List.Perm.refl _, fun b => Iff.rfl⟩, by omega, ?_, ((Frm.refl (fun _ => False) w).alloc _).alloc _⟩
  rintro b (e | e | e | e)
  · omega
  · omega
  · cases e
  · cases e
end Go.Proofs.Ytjgoddieamphpaa.Wh
namespace Go.Proofs.Ytjgoddieamphpaa.Wh
open Go.RowKit Go.Sort Go.Proofs.YtjgoddieamphpaaW.PrintWords Go.Proofs.YtjgoddieamphpaaW.PrintLast Heap Go.Proofs.Ytjgoddieamphpaa.Obj Go.Proofs.Ytjgoddieamphpaa.PWheelActs
set_option maxRecDepth 100000
set_option linter.unusedVariables false
theorem wnext_nil (w : World) : Calls Try.prog 34 #[.pointer none] w fun e w' => e = .returned (.tuple #[.string ⟨#[]⟩, .int .i64 0, .bool false]) ∧ w = w' := by
  go_enter Try.func34, Try.ntmps34
  go_wp2_with fail
  (with_reducible refine (whlen_nil _).mono ?_); rintro e w2 ⟨rfl, rfl⟩
  go_wp2
  go_ret3
  exact ⟨rfl, rfl⟩
theorem wdue_nil9 (w : World) : Calls Try.prog 32 #[.pointer none, .int .i64 9, .int .i64 9] w fun e w' => e = .returned (.slice none 0 0) ∧ w = w' := by
  go_enter Try.func32, Try.ntmps32
  go_wp2
  go_loopg [7] 1 (fun kq v7 wr => v7 = .slice none 0 0 ∧ w = wr)
  case atStart => exact ⟨rfl, rfl⟩
  case round =>
    obtain ⟨rfl, rfl⟩ := hrel
    go_wp2_with fail
    (with_reducible refine (wnext_nil _).mono ?_); rintro e w2 ⟨rfl, rfl⟩
    go_wp2
    go_ret
    exact ⟨rfl, rfl⟩
def sa : ByteArray := ⟨#[97]⟩
def sb : ByteArray := ⟨#[98]⟩
section
variable {w : World} {S : Nat → Prop} {p : Nat}
/-- S moves on, above a base. -/
theorem up_lo {base : Nat} {S' : Nat → Prop} {w : World} (hS : ∀ b, S b → base ≤ b) (hb : base ≤ w.heap.size) (h : ∀ b, S' b → S b ∨ w.heap.size ≤ b) : ∀ b, S' b → base ≤ b := fun b hb' => by
  rcases h b hb' with e | e
  · exact hS b e
  · omega
structure WB (w0 w : World) (S : Nat → Prop) (p : Nat) (K : List KV) : Prop where
  k : WK w S p K
  lo : ∀ b, S b → w0.heap.size ≤ b
  f : Frm (fun _ => False) w0 w
variable {w0 : World} {K : List KV}
theorem WB.moved {S' : Nat → Prop} {w1 : World} {K1 : List KV} (h : WB w0 w S p K) (k : WK w1 S' p K1) (f : Frm S w w1) (hs : ∀ b, S' b → S b ∨ w.heap.size ≤ b) : WB w0 w1 S' p K1 :=
  ⟨k, up_lo h.lo h.f.size hs, h.f.then f (fun b hb e => by have := h.lo b e; omega)⟩
theorem aw1 (h : WB w0 w S p []) : Calls Try.prog 27 #[.pointer (some ⟨p, 0, none⟩), .string ⟨#[97]⟩, .int .i64 5] w fun e w' => e = .returned (.tuple #[]) ∧ ∃ S', WB w0 w' S' p [(sa, 5)] := by
  refine (h.k.put sa (by decide) 5 (by decide)).mono ?_
  rintro e w' ⟨a, S', h1, h2, h3⟩
  exact ⟨a, S', h.moved (show WK w' S' p [(sa, 5)] from h1) h2 h3⟩
theorem aw2 (h : WB w0 w S p [(sa, 5)]) : Calls Try.prog 27 #[.pointer (some ⟨p, 0, none⟩), .string ⟨#[98]⟩, .int .i64 3] w fun e w' => e = .returned (.tuple #[]) ∧ ∃ S', WB w0 w' S' p [(sa, 5), (sb, 3)] := by
  refine (h.k.put sb (by decide) 3 (by decide)).mono ?_
  rintro e w' ⟨a, S', h1, h2, h3⟩
  have e1 : dropK [(sa, 5)] sb = [(sa, 5)] := dropK_none (by intro c hc; obtain rfl := List.mem_singleton.1 hc; decide)
  rw [e1] at h1
  exact ⟨a, S', h.moved h1 h2 h3⟩
theorem first_ab : IsFirst [(sa, 5), (sb, 3)] (sb, 3) := by
  refine ⟨by simp, fun y hy => ?_⟩
  rcases List.mem_cons.1 hy with rfl | hy
  · decide
  · obtain rfl := List.mem_singleton.1 hy; exact lessK_irr _
theorem aw3 (h : WB w0 w S p [(sa, 5), (sb, 3)]) : Calls Try.prog 34 #[.pointer (some ⟨p, 0, none⟩)] w fun e w' => e = .returned (.tuple #[.string ⟨#[98]⟩, .int .i64 3, .bool true]) ∧ WB w0 w' S p [(sa, 5), (sb, 3)] := by
  refine (h.k.next_some (sb, 3) first_ab).mono ?_
  rintro e w' ⟨a, n, rfl⟩
  exact ⟨a, h.k.drewN n, h.lo, h.f.drewN n⟩
theorem drop_ab : dropK [(sa, 5), (sb, 3)] sb = [(sa, 5)] := by
  unfold dropK
  rw [List.filter_cons, if_pos (by decide), List.filter_cons, if_neg (by decide)]; rfl
theorem aw4 (h : WB w0 w S p [(sa, 5), (sb, 3)]) : Calls Try.prog 32 #[.pointer (some ⟨p, 0, none⟩), .int .i64 9, .int .i64 1] w fun e w' => ∃ ad c S', e = .returned (.slice (some ad) 1 c) ∧ w'.cell? ad = some (.string ⟨#[98]⟩) ∧ ad.block < w'.heap.size ∧ (∀ b, S' b → b ≠ ad.block) ∧ WB w0 w' S' p [(sa, 5)] := by
  refine (h.k.due 9 1).mono ?_
  rintro e w' ⟨A, c, o, K', S', rfl, h1, h2, h3, h4, h5⟩
  have h6 : Dues 9 1 [(sa, 5), (sb, 3)] [sb] [(sa, 5)] := .one 0 _ [(sa, 5)] [(sa, 5)] (sb, 3) [] first_ab (by decide) (by rw [drop_ab]) (.full _)
  obtain ⟨rfl, hp⟩ := h5.uniq h6 (List.Perm.refl _)
  have hw : WB w0 w' S' p [(sa, 5)] := h.moved (h2.perm hp) h3 h4
  obtain ⟨A', c', e', _, hC⟩ := Kd.R_reads h1
  injection e' with e1 e2 e3
  subst e1
  obtain ⟨ad, c5, e5, _, hK, hc0⟩ := Kd.C_get hC (⟨#[]⟩ : ByteArray) 0 (by decide) (by decide)
  subst e5
  have hK' : c5 = [.string sb] := hK
  subst hK'
  have hcell : w'.cell? ad = some (.string ⟨#[98]⟩) := hc0 0 _ rfl
  refine ⟨ad, c, S', rfl, hcell, World.block_lt_of_cell? _ _ hcell, fun b hb e => ?_, hw⟩
  obtain ⟨_, hbase, _, q, hq, cells, hc⟩ := (Kd.R_bound h1).1 ad.block rfl
  have : q = 9 := by simpa [Kd.string, Kd.scalar] using hq
  subst this
  subst e
  rcases hw.k.type _ _ _ hb hc with e | e | e <;> cases e
theorem aw5 (h : WB w0 w S p [(sa, 5)]) : Calls Try.prog 36 #[.pointer (some ⟨p, 0, none⟩), .string ⟨#[97]⟩] w fun e w' => e = .returned (.tuple #[.int .i64 5, .bool true]) ∧ w = w' := by
  have := h.k.at_ sa (by decide)
  rw [atK_of h.k.nodup (t := 5) (by simp), show hasK [(sa, 5)] sa = true from by decide] at this
  exact this
theorem aw6 (h : WB w0 w S p [(sa, 5)]) : Calls Try.prog 38 #[.pointer (some ⟨p, 0, none⟩)] w fun e w' => e = .returned (.int .i64 1) ∧ w = w' := h.k.len
theorem aw7 (h : WB w0 w S p [(sa, 5)]) : Calls Try.prog 29 #[.pointer (some ⟨p, 0, none⟩), .string ⟨#[98]⟩] w fun e w' => e = .returned (.bool false) ∧ ∃ S', WB w0 w' S' p [(sa, 5)] := by
  refine (h.k.drop sb (by decide)).mono ?_
  rintro e w' ⟨a, S', h1, h2, h3⟩
  have e1 : dropK [(sa, 5)] sb = [(sa, 5)] := dropK_none (by intro c hc; obtain rfl := List.mem_singleton.1 hc; decide)
  rw [e1] at h1
  exact ⟨by rw [a]; rfl, S', h.moved h1 h2 h3⟩
theorem aw8 (h : WB w0 w S p [(sa, 5)]) : Calls Try.prog 29 #[.pointer (some ⟨p, 0, none⟩), .string ⟨#[97]⟩] w fun e w' => e = .returned (.bool true) ∧ ∃ S' K, WB w0 w' S' p K := by
  refine (h.k.drop sa (by decide)).mono ?_
  rintro e w' ⟨a, S', h1, h2, h3⟩
  exact ⟨by rw [a]; rfl, S', _, h.moved h1 h2 h3⟩
end
theorem wput_nil1 (w : World) : Calls Try.prog 27 #[.pointer none, .string ⟨#[97]⟩, .int .i64 1] w fun e w' => e = .returned (.tuple #[]) ∧ w = w' := wput_nil _ _ _
theorem wnewB (w : World) : Calls Try.prog 26 #[] w fun e w' => ∃ p S, e = .returned (.pointer (some ⟨p, 0, none⟩)) ∧ WB w w' S p [] := by
  refine (wnew_any w).mono ?_
  rintro e w' ⟨p, S, a, h1, h2, h3, h4⟩
  exact ⟨p, S, a, h1, h3, h4⟩
set_option maxHeartbeats 2000000 in
theorem wawake_any (w : World) : Calls Try.prog 25 #[] w fun e w' => e = .returned (.bool true) ∧ Frm (fun _ => False) w w' := by
  go_enter Try.func25, Try.ntmps25
  go_wp2_with fail
  (with_reducible refine (wnewB _).mono ?_); rintro e w1 ⟨p, S1, rfl, h1⟩
  have H1 := Aside0.mk h1
  clear h1
  go_wp2_with fail
  (with_reducible refine (aw1 H1.out).mono ?_); rintro e w2 ⟨rfl, S2, h2⟩
  have H2 := Aside0.mk h2
  clear h2 H1
  go_wp2_with fail
  (with_reducible refine (aw2 H2.out).mono ?_); rintro e w3 ⟨rfl, S3, h3⟩
  have H3 := Aside0.mk h3
  clear h3 H2
  go_wp2_with fail
  (with_reducible refine (aw3 H3.out).mono ?_); rintro e w4 ⟨rfl, h4⟩
  have H4 := Aside0.mk h4
  clear h4 H3
  go_wp2_with fail
  (with_reducible refine (aw4 H4.out).mono ?_); rintro e w5 ⟨ad, c, S5, rfl, hc5, hl5, hn5, h5⟩
  have H5 := Aside0.mk h5
  have HN5 := Lib.hid hn5
  have HC5 := Lib.hid hc5
  have hz : ad.add 0 = ad := by simp [Addr.add]
  clear h5 H4 hn5
  go_wp2_with fail
  (with_reducible refine (aw5 H5.out).mono ?_); rintro e w6 ⟨rfl, rfl⟩
  go_wp2_with fail
  (with_reducible refine (wput_nil1 _).mono ?_); rintro e w6 ⟨rfl, rfl⟩
  go_wp2_with fail
  (with_reducible refine (aw6 H5.out).mono ?_); rintro e w6 ⟨rfl, rfl⟩
  go_wp2_with fail
  (with_reducible refine (aw7 H5.out).mono ?_); rintro e w7 ⟨rfl, S7, h7⟩
  have H7 := Aside0.mk h7
  clear h7 H5 hc5
  go_wp2_with fail
  (with_reducible refine (aw8 H7.out).mono ?_); rintro e w8 ⟨rfl, S8, K8, h8⟩
  have H8 := Aside0.mk h8
  clear h8 H7
  go_wp2_with fail
  (with_reducible refine (whlen_nil _).mono ?_); rintro e w9 ⟨rfl, rfl⟩
  go_wp2_with fail
  (with_reducible refine (wdue_nil9 _).mono ?_); rintro e w9 ⟨rfl, rfl⟩
  go_wp2
  go_ret
  exact ⟨rfl, H8.out.f⟩
end Go.Proofs.Ytjgoddieamphpaa.Wh
