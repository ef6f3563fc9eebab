/- Maps of texts to numbers, and what counts in them: a part of the proof. -/
import Derived.Test.YtehlhaddbfjllaaOML
namespace Go.Proofs.Ytehlhaddbfjllaa.Mp
open Go.RowKit Go.Sort Go.Proofs.YtehlhaddbfjllaaW.PrintWords Go.Proofs.YtehlhaddbfjllaaW.PrintLast Go.Proofs.YtehlhaddbfjllaaW.PrintMore Go.Proofs.Ytehlhaddbfjllaa.PMarksActs
set_option maxRecDepth 100000
set_option linter.unusedVariables false
attribute [local go_sem ↓] Go.wp_at_zero Go.wp_at_succ
theorem k75_ty : ∀ q, q ∈ (75 : Nat) :: k75.E → q ≠ 34 := by intro q hq; simp [k75, Kd.iso, Kd.pair, Kd.string, Kd.int, Kd.scalar] at hq; omega
theorem row75 {w w1 : World} {base : Nat} {v : Value} {o : List S75} {F : Nat → Prop} (h : Kd.R k75 75 w base (fun _ => True) v o) (k : Frm F w w1) (hF : ∀ b cs t, F b → w.heap[b]? = some (.cells cs t (0, 0)) → t ≠ 75) : Kd.R k75 75 w1 base (fun _ => True) v o := by
  refine Kd.R_mono (Kd.R_step (Kd.R_bound h) ?_) (fun _ _ => trivial)
  rintro b ⟨_, _, _, q, hq, cells, hc⟩ hlt
  refine k.block b hlt fun hf => ?_
  have : q = 75 := by simpa [k75, Kd.iso, Kd.pair, Kd.string, Kd.int, Kd.scalar] using hq
  subst this
  exact hF b _ _ hf hc rfl
/-- The document's marks in memory. -/
structure DM (w0 w : World) (r most : Nat) (A : Option Addr) (c : Nat) (L : List S75) : Prop where
  hd : w.heap[r]? = some (.cells #[.int .i64 (most : Int), .slice A L.length c] 34 (0, 0))
  row : Kd.R k75 75 w w0.heap.size (fun _ => True) (.slice A L.length c) L
  few : L.length ≤ most
  big : most ≤ 1024
  lr : w0.heap.size ≤ r
  f : Frm (fun _ => False) w0 w
/-- What is neither the document's head nor a row of its stays. -/
def KE (w w1 : World) : Prop := ∀ (b : Nat) (o : Obj), w.heap[b]? = some o → (∀ cs t f, o = .cells cs t f → t ≠ 34 ∧ t ≠ 75) → w1.heap[b]? = some o
theorem KE.store {w w4 : World} {r : Nat} {cs : Array Value} (hb : Below w.heap.size w w4) (hd : w.heap[r]? = some (.cells cs 34 (0, 0))) (j : Nat) (v : Value) : KE w (w4.setCell ⟨r, j, none⟩ v) := fun b o h ho => by
  have hne : b ≠ r := fun e => by
    subst e
    rw [hd] at h
    exact (ho _ _ _ (Option.some.inj h).symm).1 rfl
  rw [Below.heap_setCell w4 ⟨r, j, none⟩ v b hne]
  exact (hb.block b (blk_lt h)).trans h
theorem KE.refl (w : World) : KE w w := fun _ _ h _ => h
theorem KE.trans {a b c : World} (h : KE a b) (k : KE b c) : KE a c := fun x o hx ho => k x o (h x o hx ho) ho
theorem KE.of_frm {w w1 : World} (f : Frm (fun _ => False) w w1) : KE w w1 := fun b o hb _ => f.blk hb (fun e => e)
section
variable {w0 w w1 : World} {r most : Nat} {A : Option Addr} {c : Nat} {L : List S75}
theorem DM.movedN (h : DM w0 w r most A c L) (f : Frm (fun _ => False) w w1) : DM w0 w1 r most A c L := ⟨f.blk h.hd (fun e => e), row75 h.row f (fun _ _ _ e => e.elim), h.few, h.big, h.lr, h.f.trans f⟩
theorem DM.c0 (h : DM w0 w r most A c L) : w.cell? ⟨r, 0, none⟩ = some (.int .i64 (most : Int)) := (blk_cell h.hd 0).trans rfl
theorem DM.c1 (h : DM w0 w r most A c L) : w.cell? ⟨r, 1, none⟩ = some (.slice A L.length c) := (blk_cell h.hd 1).trans rfl
theorem DM.renew {w4 : World} {L' : List S75} {B : Option Addr} {d : Nat} (h : DM w0 w r most A c L) (hv : Kd.R k75 75 w4 w.heap.size (fun _ => True) (.slice B L'.length d) L') (hb : Below w.heap.size w w4) (hf : L'.length ≤ most) : DM w0 (w4.setCell ⟨r, 1, none⟩ (.slice B L'.length d)) r most B d L' :=
  have f4 := Frm.of_below (F := fun _ => False) hb
  have h4 := h.movedN f4
  ⟨blk_put h4.hd 1 _ rfl, Kd.R_lower (Kd.R_set hv h4.hd k75_ty 1 _) h.f.size, hf, h.big, h.lr, (h4.f).setCell (.inr h.lr) _⟩
theorem DM.at_ (h : DM w0 w r most A c L) {i : Nat} (hi : i < L.length) : ∃ ad, A = some ad ∧ w.cell? (ad.add (i * 3)) = some (.string (L.getD i z75).f0) ∧ w.cell? ⟨(ad.add (i * 3)).block, (ad.add (i * 3)).off + 1, none⟩ = some (.int .i64 (L.getD i z75).f1) ∧ w.cell? ⟨(ad.add (i * 3)).block, (ad.add (i * 3)).off + 2, none⟩ = some (.int .i64 (L.getD i z75).f2) := by
  obtain ⟨ad, e, q0, q1, q2⟩ := at_T75 (Kd.R_reads' h.row).2.2 (i : Int) (by omega) (by omega)
  rw [rd75, Int.toNat_natCast] at q0 q1 q2
  exact ⟨ad, e, q0, q1, q2⟩
set_option maxHeartbeats 1000000 in
theorem DM.has (h : DM w0 w r most A c L) {K : List KV} (hn : ND K) (hp : K.Perm (prM L)) (key : ByteArray) (now : Int) : Calls Try.prog 19 #[.pointer (some ⟨r, 0, none⟩), .string key, .int .i64 now] w fun e w' => e = .returned (.bool (hasK K key && decide (now < getK K key))) ∧ Frm (fun _ => False) w w' := by
  obtain ⟨v, hv, hvv⟩ := find_f L (by have := h.few; have := h.big; omega) key
  have c1 := h.c1
  have H := Aside0.mk h
  have HV := Lib.hid hv
  have HR := Aside0.mk (Kd.R_reads' h.row)
  clear h
  rcases hvv with ⟨rfl, hno⟩ | ⟨j, rfl, hj, hk⟩
  · have hh : hasK K key = false := by
      cases e : hasK K key with
      | false => rfl
      | true =>
        obtain ⟨q, hq, e2⟩ := (has_pr hp key).1 e
        exact absurd e2 (hno q hq)
    rw [hh, Bool.false_and]
    clear hv hno hh hn hp
    go_enter Try.func19, Try.ntmps19
    go_wp2_with fail
    (with_reducible refine (turncockref20_find.calls (L.length + 1) A c L key (-1) _ HR.out.2.2 HR.out.2.1 HV.out).mono ?_); rintro e w1 ⟨rfl, q, rfl⟩
    go_wp2
    go_ret
    exact ⟨rfl, (Frm.refl _ w).drewN q⟩
  · have hh : hasK K key = true := (has_pr hp key).2 ⟨j, hj, hk⟩
    have hg : getK K key = (L.getD j z75).f2 := by rw [← hk]; exact get_pr hn hp hj
    rw [hh, hg, Bool.true_and]
    obtain ⟨ad, rfl, q0, q1, q2⟩ := H.out.at_ hj
    generalize (L.getD j z75).f2 = vu at *
    have d1 : decide ((0 : Int) ≤ (j : Int)) = true := decide_eq_true (by omega)
    clear hv hh hg hn hp hk q0 q1
    go_enter Try.func19, Try.ntmps19
    go_wp2_with fail
    (with_reducible refine (turncockref20_find.calls (L.length + 1) (some ad) c L key (j : Int) _ HR.out.2.2 HR.out.2.1 HV.out).mono ?_); rintro e w1 ⟨rfl, q, rfl⟩
    go_wp2
    go_ret
    exact ⟨rfl, (Frm.refl _ w).drewN q⟩
end
end Go.Proofs.Ytehlhaddbfjllaa.Mp
