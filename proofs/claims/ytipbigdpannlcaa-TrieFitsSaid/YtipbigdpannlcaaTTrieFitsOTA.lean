/- What the law TrieFits uses, thinned: printed by shake2.py. -/
import Derived.Test.YtipbigdpannlcaaTTrieFitsPTrieFitsx0
import Derived.RegionTactic
import Derived.ChangeAlike
import Derived.BigRegion
import Derived.Outline
import Derived.IntWalk
import Derived.Lib.Hide
set_option linter.unusedVariables false
namespace Go.Proofs.Ytipbigdpannlcaa.Tr
open Go.RowKit Go.Proofs.YtipbigdpannlcaaW.PrintWords Go.Proofs.YtipbigdpannlcaaW.PrintLast Go.Proofs.Ytipbigdpannlcaa.PTrieFits
structure Frm (F : Nat → Prop) (w w' : World) : Prop where
  os : w'.os = w.os
  tape : w'.tape = w.tape
  output : w'.output = w.output
  size : w.heap.size ≤ w'.heap.size
  block : ∀ k, k < w.heap.size → ¬ F k → w'.heap[k]? = w.heap[k]?
theorem Frm.refl (F : Nat → Prop) (w : World) : Frm F w w := ⟨rfl, rfl, rfl, Nat.le_refl _, fun _ _ _ => rfl⟩
theorem Frm.trans {F : Nat → Prop} {a b c : World} (h : Frm F a b) (k : Frm F b c) : Frm F a c :=
  ⟨k.os.trans h.os, k.tape.trans h.tape, k.output.trans h.output, Nat.le_trans h.size k.size, fun i hi hn => (k.block i (Nat.lt_of_lt_of_le hi h.size) hn).trans (h.block i hi hn)⟩
theorem Frm.mono {F G : Nat → Prop} {a b : World} (h : Frm F a b) (hg : ∀ k, k < a.heap.size → F k → G k) : Frm G a b :=
  ⟨h.os, h.tape, h.output, h.size, fun i hi hn => h.block i hi (fun hf => hn (hg i hi hf))⟩
theorem Frm.then {F G : Nat → Prop} {a b c : World} (h : Frm F a b) (k : Frm G b c) (hg : ∀ i, i < a.heap.size → G i → F i) : Frm F a c :=
  ⟨k.os.trans h.os, k.tape.trans h.tape, k.output.trans h.output, Nat.le_trans h.size k.size, fun i hi hn => (k.block i (Nat.lt_of_lt_of_le hi h.size) (fun hf => hn (hg i hi hf))).trans (h.block i hi hn)⟩
theorem Frm.of_below {F : Nat → Prop} {w w' : World} (h : Below w.heap.size w w') : Frm F w w' := ⟨h.os, h.tape, h.output, h.size, fun k hk _ => h.block k hk⟩
theorem Frm.alloc {F : Nat → Prop} {a w : World} (h : Frm F a w) (o : Obj) : Frm F a (w.alloc o) :=
  h.trans ⟨rfl, rfl, rfl, by simp, fun k hk _ => Below.heap_alloc _ _ _ hk⟩
theorem Frm.drew {F : Nat → Prop} {a w : World} (h : Frm F a w) : Frm F a w.drew := ⟨h.os, h.tape, h.output, h.size, h.block⟩
theorem Frm.drewN {F : Nat → Prop} {a w : World} (h : Frm F a w) (n : Nat) : Frm F a (w.drewN n) := ⟨h.os, h.tape, h.output, h.size, h.block⟩
theorem Frm.setCell {F : Nat → Prop} {a w : World} (h : Frm F a w) {p : Addr} (hp : F p.block ∨ a.heap.size ≤ p.block) (u : Value) : Frm F a (w.setCell p u) :=
  ⟨h.os, h.tape, h.output, by rw [show (w.setCell p u).heap.size = w.heap.size by simp [World.setCell]]; exact h.size, fun k hk hn => (Below.heap_setCell _ _ _ _ (fun e => by subst e; rcases hp with hp | hp; exact hn hp; omega)).trans (h.block k hk hn)⟩
theorem Frm.blk {F : Nat → Prop} {w w' : World} (h : Frm F w w') {g : Nat} {o : Obj} (hb : w.heap[g]? = some o) (hg : ¬ F g) : w'.heap[g]? = some o := (h.block g (blk_lt hb) hg).trans hb
theorem Frm.cell {F : Nat → Prop} {w w' : World} (h : Frm F w w') {a : Addr} {v : Value} (hc : w.cell? a = some v) (hn : ¬ F a.block) : w'.cell? a = some v :=
  (World.cell?_of_block (w := w) (h.block a.block (World.block_lt_of_cell? w a hc) hn)).trans hc
abbrev BR := S46
abbrev DO := S53
abbrev EN := S48
abbrev kB : Kd BR := k46
abbrev kD : Kd DO := k53
abbrev kE : Kd EN := k48
abbrev zB : BR := z46
abbrev kI : Kd Int := Kd.int .i64
structure Cfg where
  ds : List DO
  bs : List BR
structure CfV where
  A : Option Addr
  c : Nat
  B : Option Addr
  d : Nat
structure CfC (w : World) (v : CfV) (c : Cfg) : Prop where
  ds : kD.C w v.A c.ds.length c.ds
  bs : kB.C w v.B c.bs.length c.bs
  lc : c.ds.length ≤ v.c
  ld : c.bs.length ≤ v.d
def CfV.val (v : CfV) (c : Cfg) : Value := .agg #[.slice v.A c.ds.length v.c, .slice v.B c.bs.length v.d]
theorem CfC.below {w w1 : World} {v : CfV} {c : Cfg} (h : CfC w v c) (k : Below w.heap.size w w1) : CfC w1 v c := ⟨Kd.C_below h.ds k, Kd.C_below h.bs k, h.lc, h.ld⟩
theorem CfC.drewN {w : World} {v : CfV} {c : Cfg} (h : CfC w v c) (n : Nat) : CfC (w.drewN n) v c := h.below (pw_below_drewN (Below.refl _ _) n)
def br (bs : List BR) (i : Int) : BR := bs.getD i.toNat zB
theorem br_rd (bs : List BR) (i : Int) : rd_T46 bs i = br bs i := rfl
def twinB (a b : BR) : Bool := decide (a.f0.toList = b.f0.toList) && decide (a.f1.toList = b.f1.toList) && (a.f2 == b.f2)
structure WfB (b : BR) : Prop where
  s0 : b.f0.size ≤ 9223372036854775807
  s1 : b.f1.size ≤ 9223372036854775807
  s6 : b.f6.f0.size ≤ 9223372036854775807
  x6 : b.f6.f3 < 18446744073709551616
end Go.Proofs.Ytipbigdpannlcaa.Tr
