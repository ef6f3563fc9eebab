/- Maps of texts to numbers, and what counts in them: a part of the proof. -/
import Derived.Test.YtehlhaddbfjllaaOMC
namespace Go.Proofs.Ytehlhaddbfjllaa.Mp
open Go.RowKit Go.Sort Go.Proofs.YtehlhaddbfjllaaW.PrintWords Go.Proofs.YtehlhaddbfjllaaW.PrintLast Go.Maps Go.WideMaps
set_option maxRecDepth 100000
set_option linter.unusedVariables false
attribute [local go_sem ↓] Go.wp_at_zero Go.wp_at_succ
/-! What is told to go, and all that goes. -/
def pdM (now : Int) (_ : Lit) (d : DataW Unit) : Bool := match d with
  | .lit (.int .i64 n) => decide (n ≤ now)
  | _ => false
def onlyK (K : List KV) (now : Int) : List KV := K.filter fun c => decide (now < c.2)
theorem onlyK_nd {K : List KV} (h : ND K) (now : Int) : ND (onlyK K now) := h.sublist ((List.filter_sublist (l := K)).map _)
theorem onlyK_len (K : List KV) (now : Int) : (onlyK K now).length ≤ K.length := List.length_filter_le _ _
section
variable {w : World} {mb : Nat} {K : List KV}
theorem MI.filter (h : MI w mb K) (now : Int) (T : Nat) (hT : w.heap[T]? = some (.cells #[.int .i64 now] 3 (0, 0))) : Calls Try.prog 36 #[.map (some mb), .func (.func 37) #[] #[.pointer (some ⟨T, 0, none⟩)]] w fun e w' => e = .returned (.tuple #[]) ∧ MI w' mb (onlyK K now) ∧ w.grownBy w' (some mb) := by
  obtain ⟨es, h1, h2, h3⟩ := h
  have hne : T ≠ mb := fun e => by
    obtain ⟨e2, clock, hb, _⟩ := h1
    rw [e, hb] at hT
    cases hT
  refine (AnyDf.maps_DeleteFunc Try.delf36 law9 intR (pdM now) 37 #[.pointer (some ⟨T, 0, none⟩)] mb K.length (.map es) w (enters_of Try.func37 (by kernel_rfl) rfl) h1 ?_).mono ?_
  · intro W key val kl yd yp hg hk hv
    obtain ⟨n, rfl, rfl⟩ := intR_inv hv
    have hTW := (hg.block T (blk_lt hT) (fun e => hne (Option.some.inj e))).trans hT
    have c0 := (blk_cell hTW 0).trans (show (#[Value.int .i64 now][0]? : Option Value) = some (.int .i64 now) from rfl)
    have HC := Lib.hid (show pdM now kl (.lit (.int .i64 n)) = decide (n ≤ now) from rfl)
    clear hg hk hv hT hTW h1
    show Calls Try.prog 37 #[key, .int .i64 n, .pointer (some ⟨T, 0, none⟩)] W _
    rw [HC.out]
    go_enter Try.func37, Try.ntmps37
    go_wp2
    go_ret
    exact ⟨rfl, ⟨rfl, rfl, rfl, Nat.le_refl _, fun _ _ _ => rfl⟩⟩
  · rintro e w' ⟨a, ho, hg⟩
    have hp : (es.filter fun p => !(pdM now p.1 p.2)).Perm ((onlyK K now).map ent) := by
      refine (h2.filter _).trans (List.Perm.of_eq ?_)
      rw [List.filter_map]
      unfold onlyK
      congr 1
      refine List.filter_congr fun c _ => ?_
      show (!(decide (c.2 ≤ now))) = decide (now < c.2)
      by_cases h : c.2 ≤ now
      · simp [h]
      · simp [h]; omega
    refine ⟨a, ⟨_, ?_, hp, onlyK_nd h3 now⟩, hg⟩
    have hz := own_size ho
    have hz2 : Maps.size (Lib.deleteFuncD (pdM now) (DataW.map es)) = (onlyK K now).length := by
      show (es.filter _).length = _
      rw [hp.length_eq, List.length_map]
    rw [hz2] at hz
    exact hz
theorem MI.clear (h : MI w mb K) (ty : TypeId) : ∃ w', (Builtin.clear_ #[65] ty #[.map (some mb)]).run Try.prog w = .ok (.tuple #[]) w' ∧ MI w' mb [] ∧ w.grownBy w' (some mb) := by
  obtain ⟨es, ⟨e2, clock, hb, F, hs, hD⟩, h2, h3⟩ := h
  have hrun : ∃ w', (Builtin.clear_ #[65] ty #[.map (some mb)]).run Try.prog w = .ok (.tuple #[]) w' ∧ w'.heap[mb]? = some (.map #[] clock) ∧ w.grownBy w' (some mb) := by
    simp [Builtin.clear_, run_underlying Try.underlying65, Go.MapKept.run_getObj_map hb, Go.MapKept.run_setObj_map _ hb, Result.andThen]
    exact ⟨(Go.MapKept.heap_set hb).1, rfl, rfl, rfl, by simp, fun k hk hne => (Go.MapKept.heap_set hb).2 k (fun e => hne (by rw [e]))⟩
  obtain ⟨w', hr, hh, hg⟩ := hrun
  exact ⟨w', hr, ⟨[], ⟨#[], clock, hh, ⟨by simp, Go.MapKept.stamped_empty clock, by simp⟩, Nat.le_refl _, rfl⟩, List.Perm.refl _, List.nodup_nil⟩, hg⟩
end
/-- Marks in memory. -/
structure MK (w0 w : World) (p mb : Nat) (most : Nat) (K : List KV) : Prop where
  hd : w.heap[p]? = some (.cells #[.int .i64 (most : Int), .map (some mb)] 67 (0, 0))
  m : MI w mb K
  few : K.length ≤ most
  big : most ≤ 1024
  sm : ∀ c ∈ K, c.1.size ≤ 1000
  lp : w0.heap.size ≤ p
  lm : w0.heap.size ≤ mb
  f : Frm (fun _ => False) w0 w
section
variable {w0 w w1 : World} {p mb most : Nat} {K K' : List KV}
theorem MK.c0 (h : MK w0 w p mb most K) : w.cell? ⟨p, 0, none⟩ = some (.int .i64 (most : Int)) := (blk_cell h.hd 0).trans rfl
theorem MK.c1 (h : MK w0 w p mb most K) : w.cell? ⟨p, 1, none⟩ = some (.map (some mb)) := (blk_cell h.hd 1).trans rfl
theorem MK.ne (h : MK w0 w p mb most K) : p ≠ mb := fun e => by
  obtain ⟨es, c, hb⟩ := h.m.blk
  have := h.hd
  rw [e, hb] at this
  cases this
theorem MK.movedN (h : MK w0 w p mb most K) (f : Frm (fun _ => False) w w1) : MK w0 w1 p mb most K :=
  ⟨f.blk h.hd (fun e => e), h.m.frm (f.block mb h.m.lt (fun e => e)), h.few, h.big, h.sm, h.lp, h.lm, h.f.trans f⟩
theorem MK.movedM (h : MK w0 w p mb most K) (hm : MI w1 mb K') (f : Frm (fun i => i = mb) w w1) (hf : K'.length ≤ most) (hs : ∀ c ∈ K', c.1.size ≤ 1000) : MK w0 w1 p mb most K' :=
  ⟨f.blk h.hd h.ne, hm, hf, h.big, hs, h.lp, h.lm, h.f.then f (fun i hi e => by have := h.lm; omega)⟩
theorem frmM {w w1 : World} {b : Nat} (g : w.grownBy w1 (some b)) : Frm (fun i => i = b) w w1 := ⟨g.os, g.tape, g.output, g.size, fun j hj hn => g.block j hj (fun e => hn (Option.some.inj e))⟩
def mostOf (n : Int) : Nat := (min (max n 0) 1024).toNat
theorem mnew_any (n : Int) (w : World) : Calls Try.prog 12 #[.int .i64 n] w fun e w' => ∃ p mb, e = .returned (.pointer (some ⟨p, 0, none⟩)) ∧ MK w w' p mb (mostOf n) [] := by
  have hmm := @run_makeMap Try.prog
  have e1 : min (max n 0) 1024 = ((mostOf n : Nat) : Int) := by unfold mostOf; omega
  have HE := Lib.hid e1
  clear e1
  go_enter Try.func12, Try.ntmps12
  go_wp2
  go_ret
  rw [HE.out]
  obtain ⟨w1, hw1⟩ : ∃ w1, w1 = w.alloc (.map #[] 0) := ⟨_, rfl⟩
  have f1 : Frm (fun _ => False) w w1 := by rw [hw1]; exact (Frm.refl _ w).alloc _
  have hm : MI w1 w.heap.size [] := by rw [hw1]; exact MI.made w
  have hz : w1.heap.size = w.heap.size + 1 := by rw [hw1]; simp
  rw [← hw1]
  have f2 := (Frm.refl (fun _ => False) w1).alloc (.cells #[.int .i64 ((mostOf n : Nat) : Int), .map (some w.heap.size)] 67)
  have hd := blk_new w1 (.cells #[.int .i64 ((mostOf n : Nat) : Int), .map (some w.heap.size)] 67)
  rw [hz] at hd
  exact ⟨w.heap.size + 1, w.heap.size, rfl, hd, hm.frm (f2.block _ hm.lt (fun e => e)), Nat.zero_le _, by unfold mostOf; omega, (fun c hc => by cases hc), by omega, Nat.le_refl _, f1.trans f2⟩
theorem MK.len (h : MK w0 w p mb most K) : Calls Try.prog 17 #[.pointer (some ⟨p, 0, none⟩)] w fun e w' => e = .returned (.int .i64 (K.length : Nat)) ∧ w = w' := by
  have c1 := h.c1
  have hl := h.m.len_run 3
  clear h
  go_enter Try.func17, Try.ntmps17
  go_wp2
  go_ret
  exact ⟨rfl, rfl⟩
theorem MK.has (h : MK w0 w p mb most K) (k : ByteArray) (hs : k.size ≤ 1000) (now : Int) : Calls Try.prog 18 #[.pointer (some ⟨p, 0, none⟩), .string k, .int .i64 now] w fun e w' => e = .returned (.bool (hasK K k && decide (now < getK K k))) ∧ w = w' := by
  have c1 := h.c1
  have hl := h.m.look k (by unfold maxLen; omega) true
  rw [if_pos rfl] at hl
  clear h hs
  generalize hasK K k = b at *
  generalize getK K k = v at *
  cases b with
  | true =>
    go_enter Try.func18, Try.ntmps18
    go_wp2
    go_ret
    exact ⟨rfl, rfl⟩
  | false =>
    go_enter Try.func18, Try.ntmps18
    go_wp2
    go_ret
    exact ⟨rfl, rfl⟩
theorem MK.clear (h : MK w0 w p mb most K) : Calls Try.prog 16 #[.pointer (some ⟨p, 0, none⟩)] w fun e w' => e = .returned (.tuple #[]) ∧ MK w0 w' p mb most [] ∧ Frm (fun i => i = mb) w w' := by
  have c1 := h.c1
  obtain ⟨w2, hr, hm, hg⟩ := h.m.clear 0
  have H2 := Aside0.mk (h.movedM hm (frmM hg) (Nat.zero_le _) (fun c hc => by cases hc))
  have HF := Aside0.mk (frmM hg)
  clear h hm hg
  go_enter Try.func16, Try.ntmps16
  go_wp2
  go_end0
  exact ⟨rfl, H2.out, HF.out⟩
end
end Go.Proofs.Ytehlhaddbfjllaa.Mp
