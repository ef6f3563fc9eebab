/- Maps of texts to numbers, and what counts in them: a part of the proof. -/
import Derived.Test.YtehlhaddbfjllaaOSB
import Derived.Maps.AppendAt
namespace Go.Proofs.Ytehlhaddbfjllaa.Mp
open Go.RowKit Go.Sort Go.Proofs.YtehlhaddbfjllaaW.PrintWords Go.Proofs.YtehlhaddbfjllaaW.PrintLast Go.Maps Go.WideMaps
set_option maxRecDepth 100000
set_option linter.unusedVariables false
attribute [local go_sem ↓] Go.wp_at_zero Go.wp_at_succ
/-! Stats in memory. -/
structure SI (w0 w : World) (p mb : Nat) (K : List KV) : Prop where
  hd : w.heap[p]? = some (.cells #[.map (some mb)] 77 (0, 0))
  m : MI w mb K
  few : K.length ≤ 100000
  sm : ∀ c ∈ K, c.1.size ≤ 1000
  lp : w0.heap.size ≤ p
  lm : w0.heap.size ≤ mb
  f : Frm (fun _ => False) w0 w
def addK (K : List KV) (k : ByteArray) (n : Int) : List KV := if 1 ≤ n then (k, nadd (getK K k) n) :: dropK K k else K
theorem addK_len (K : List KV) (k : ByteArray) (n : Int) : (addK K k n).length ≤ K.length + 1 := by
  unfold addK
  split
  · have := dropK_len K k; simp; omega
  · omega
section
variable {w0 w w1 : World} {p mb : Nat} {K K' : List KV}
theorem SI.c0 (h : SI w0 w p mb K) : w.cell? ⟨p, 0, none⟩ = some (.map (some mb)) := (blk_cell h.hd 0).trans rfl
theorem SI.ne (h : SI w0 w p mb K) : p ≠ mb := fun e => by
  obtain ⟨es, c, hb⟩ := h.m.blk
  have := h.hd
  rw [e, hb] at this
  cases this
theorem SI.movedN (h : SI w0 w p mb K) (f : Frm (fun _ => False) w w1) : SI w0 w1 p mb K :=
  ⟨f.blk h.hd (fun e => e), h.m.frm (f.block mb h.m.lt (fun e => e)), h.few, h.sm, h.lp, h.lm, h.f.trans f⟩
theorem SI.drew (h : SI w0 w p mb K) : SI w0 w.drew p mb K := h.movedN ((Frm.refl _ w).drew)
theorem SI.drewN (h : SI w0 w p mb K) (n : Nat) : SI w0 (w.drewN n) p mb K := h.movedN ((Frm.refl _ w).drewN n)
theorem frm_grown {w w1 : World} {b : Nat} (g : w.grownBy w1 (some b)) : Frm (fun i => i = b) w w1 := ⟨g.os, g.tape, g.output, g.size, fun j hj hn => g.block j hj (fun e => hn (Option.some.inj e))⟩
theorem SI.movedM (h : SI w0 w p mb K) (hm : MI w1 mb K') (g : w.grownBy w1 (some mb)) (hf : K'.length ≤ 100000) (hs : ∀ c ∈ K', c.1.size ≤ 1000) : SI w0 w1 p mb K' :=
  ⟨(frm_grown g).blk h.hd h.ne, hm, hf, hs, h.lp, h.lm, h.f.then (frm_grown g) (fun i hi e => by have := h.lm; omega)⟩
theorem SI.perm (h : SI w0 w p mb K) (hp : K.Perm K') : SI w0 w p mb K' := ⟨h.hd, h.m.perm hp, by rw [← hp.length_eq]; exact h.few, fun c hc => h.sm c (hp.mem_iff.2 hc), h.lp, h.lm, h.f⟩
theorem SI.numadd (h : SI w0 w p mb K) (x y : Int) : Calls Try.prog 54 #[.int .i64 x, .int .i64 y] w fun e w' => e = .returned (.int .i64 (nadd x y)) ∧ SI w0 w' p mb K ∧ Frm (fun _ => False) w w' := by
  refine (nadd_any x y w).mono ?_
  rintro e w' ⟨a, rfl⟩
  exact ⟨a, h, Frm.refl _ _⟩
theorem snew_any (w : World) : Calls Try.prog 22 #[] w fun e w' => ∃ p mb, e = .returned (.pointer (some ⟨p, 0, none⟩)) ∧ SI w w' p mb [] := by
  have hmm := @run_makeMap Try.prog
  go_enter Try.func22, Try.ntmps22
  go_wp2
  go_ret
  have f1 : Frm (fun _ => False) w (w.alloc (.map #[] 0)) := (Frm.refl _ w).alloc _
  have hm := MI.made w
  refine ⟨_, w.heap.size, rfl, ?_⟩
  have hb := blk_new (w.alloc (.map #[] 0)) (.cells #[.map (some w.heap.size)] 77)
  have e1 : (w.alloc (.map #[] 0)).heap.size = w.heap.size + 1 := by simp
  refine ⟨by rw [e1] at hb; exact hb, hm.frm (Below.heap_alloc _ _ _ (by rw [e1]; omega)), by simp, by simp, by omega, by omega, f1.alloc _⟩
theorem SI.get (h : SI w0 w p mb K) (k : ByteArray) (hs : k.size ≤ 1000) : Calls Try.prog 26 #[.pointer (some ⟨p, 0, none⟩), .string k] w fun e w' => e = .returned (.int .i64 (getK K k)) ∧ w = w' := by
  have c0 := h.c0
  have hl := h.m.look k (by unfold maxLen; omega) false
  rw [if_neg (by decide)] at hl
  clear h
  go_enter Try.func26, Try.ntmps26
  go_wp2
  go_ret
  exact ⟨rfl, rfl⟩
theorem get_nil (k : ByteArray) (w : World) : Calls Try.prog 26 #[.pointer none, .string k] w fun e w' => e = .returned (.int .i64 0) ∧ w = w' := by
  go_enter Try.func26, Try.ntmps26
  go_wp2
  go_ret
  exact ⟨rfl, rfl⟩
theorem add_nil (k : ByteArray) (n : Int) (w : World) : Calls Try.prog 43 #[.pointer none, .string k, .int .i64 n] w fun e w' => e = .returned (.tuple #[]) ∧ w = w' := by
  go_enter Try.func43, Try.ntmps43
  go_wp2
  go_end0
  exact ⟨rfl, rfl⟩
theorem SI.add_no (h : SI w0 w p mb K) (k : ByteArray) (n : Int) (hn : n < 1) : Calls Try.prog 43 #[.pointer (some ⟨p, 0, none⟩), .string k, .int .i64 n] w fun e w' => e = .returned (.tuple #[]) ∧ w = w' := by
  have d1 : decide (1 ≤ n) = false := decide_eq_false (by omega)
  clear h hn
  go_enter Try.func43, Try.ntmps43
  go_wp2
  go_end0
  exact ⟨rfl, rfl⟩
set_option maxHeartbeats 1000000 in
theorem SI.add_yes (h : SI w0 w p mb K) (k : ByteArray) (hs : k.size ≤ 1000) (hf : K.length < 100000) (n : Int) (hn : 1 ≤ n) : Calls Try.prog 43 #[.pointer (some ⟨p, 0, none⟩), .string k, .int .i64 n] w fun e w' => e = .returned (.tuple #[]) ∧ SI w0 w' p mb ((k, nadd (getK K k) n) :: dropK K k) ∧ Frm (fun i => i = mb) w w' := by
  have d1 : decide (1 ≤ n) = true := decide_eq_true hn
  have c0 := h.c0
  have hl := h.m.look k (by unfold maxLen; omega) false
  rw [if_neg (by decide)] at hl
  have H := Aside0.mk h
  have HD := Aside0.mk h.drew
  have hld := h.drew.m.look k (by unfold maxLen; omega) false
  rw [if_neg (by decide)] at hld
  obtain ⟨g, hg⟩ : ∃ g, g = getK K k := ⟨_, rfl⟩
  obtain ⟨r, hr⟩ : ∃ r, r = nadd g n := ⟨_, rfl⟩
  have CA : Aside0 (∀ {w'}, SI w0 w' p mb K → Calls Try.prog 54 #[.int .i64 g, .int .i64 n] w' fun e w'' => e = .returned (.int .i64 r) ∧ SI w0 w'' p mb K ∧ Frm (fun _ => False) w' w'') := ⟨fun h' => by rw [hr]; exact h'.numadd g n⟩
  have PU : Aside0 (∀ {w'}, SI w0 w' p mb K → ∃ w'', (Instr.mapUpdate 65 (.map (some mb)) (.string k) (.int .i64 r)).run Try.prog w' = .ok () w'' ∧ SI w0 w'' p mb ((k, r) :: dropK K k) ∧ Frm (fun i => i = mb) w' w'') := ⟨fun {w'} h' => by
    obtain ⟨w'', hrun, hm, hgw⟩ := h'.m.put (by have := h'.few; unfold maxLen; omega) k (by unfold maxLen; omega) r
    refine ⟨w'', hrun, h'.movedM hm hgw (by have := dropK_len K k; simp; omega) (fun c hc => ?_), frm_grown hgw⟩
    rcases List.mem_cons.1 hc with rfl | hc
    · exact hs
    · exact h'.sm c (mem_dropK.1 hc).1⟩
  have LO : Aside0 (∀ {w'}, SI w0 w' p mb K → (Instr.lookup 65 (.map (some mb)) (.string k) false).run Try.prog w' = .ok (.int .i64 g) w') := ⟨fun h' => by rw [hg]; exact h'.m.look k (by unfold maxLen; omega) false⟩
  rw [← hg] at hl hld
  rw [← hg, ← hr]
  clear h hn hg hr
  go_enter Try.func43, Try.ntmps43
  go_wp2
  go_region_held3 (fun w' => w'.cell? ⟨p, 0, none⟩ = some (.map (some mb))) (go_keep) (first | (go_at_call 54; refine (CA.out (by first | exact HD.out | exact H.out)).mono ?_; rintro e w2 ⟨rfl, h2, f2⟩; have c2 := h2.c0; have l2 := LO.out h2; obtain ⟨w3, r3, h3, f3⟩ := PU.out h2; have c3 := h3.c0; have H3 := Aside0.mk h3; have HF3 := Aside0.mk ((((Frm.refl (fun i => i = mb) w).drew).then f2 (fun _ _ e => e.elim)).trans f3); clear h2 f2 h3 f3))
  go_wp2
  go_end0
  exact ⟨rfl, H3.out, HF3.out⟩
theorem SI.add (h : SI w0 w p mb K) (k : ByteArray) (hs : k.size ≤ 1000) (hf : K.length < 100000) (n : Int) : Calls Try.prog 43 #[.pointer (some ⟨p, 0, none⟩), .string k, .int .i64 n] w fun e w' => e = .returned (.tuple #[]) ∧ SI w0 w' p mb (addK K k n) ∧ Frm (fun i => i = mb) w w' := by
  by_cases hn : 1 ≤ n
  · rw [show addK K k n = (k, nadd (getK K k) n) :: dropK K k from if_pos hn]
    exact h.add_yes k hs hf n hn
  · rw [show addK K k n = K from if_neg hn]
    refine (h.add_no k n (by omega)).mono ?_
    rintro e w' ⟨a, rfl⟩
    exact ⟨a, h, Frm.refl _ _⟩
end
end Go.Proofs.Ytehlhaddbfjllaa.Mp
