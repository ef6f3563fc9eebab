/- What the law TrieFits uses, thinned: printed by shake2.py. -/
import Derived.Test.YtipbigdpannlcaaTTrieFitsOTX
import Derived.Test.YtipbigdpannlcaaTTrieFitsPTrieFitsx13
import Derived.RegionTactic
import Derived.Deep.RegionHeld3
import Derived.Deep.RegionLaw
import Derived.StillTailTactics
namespace Go.Proofs.Ytipbigdpannlcaa.Tr
open Go.RowKit Go.Proofs.YtipbigdpannlcaaW.PrintWords Go.Proofs.YtipbigdpannlcaaW.PrintLast Go.Proofs.YtipbigdpannlcaaW.PrintMore Go.Proofs.Ytipbigdpannlcaa.PTrieFits Go.Proofs.Ytipbigdpannlcaa.Pure
set_option maxRecDepth 100000
set_option linter.unusedVariables false
set_option linter.unusedSimpArgs false
def noKids (b : BR) : BR := ⟨b.f0, b.f1, b.f2, b.f3, b.f4, b.f5, b.f6, []⟩
def topsK : List DO → Nat → List (ByteArray × Int)
  | _, 0 => []
  | ds, n + 1 => ((dd ds n).f0, -1 - (n : Int)) :: dropK (topsK ds n) (dd ds n).f0
def stepOf (b : BR) : Step := ⟨if b.f4 < 0 then -1 - b.f3 else b.f4, b.f0, b.f1, b.f2⟩
noncomputable def waysK : List BR → Nat → List (Step × Int)
  | _, 0 => []
  | bs, n + 1 => (stepOf (br bs n), (n : Int)) :: dropK (waysK bs n) (stepOf (br bs n))
theorem lookSI {w : World} {mb : Nat} {K : List (ByteArray × Int)} (h : MI mSI w mb K) {s : ByteArray} (hs : s.size ≤ maxLen) : (Instr.lookup 67 (.map (some mb)) (.string s) true).run Try.prog w = .ok (.tuple #[.int .i64 (getK 0 K s), .bool (hasK K s)]) w := h.look (m := mSI) hs true
theorem putSI {w : World} {mb : Nat} {K : List (ByteArray × Int)} (h : MI mSI w mb K) (hn : K.length < maxLen) {s : ByteArray} (hs : s.size ≤ maxLen) (v : Int) : ∃ w', (Instr.mapUpdate 67 (.map (some mb)) (.string s) (.int .i64 v)).run Try.prog w = .ok () w' ∧ MI mSI w' mb ((s, v) :: dropK K s) ∧ w.grownBy w' (some mb) := h.put (m := mSI) hn hs v
theorem lookWI {w : World} {mb : Nat} {K : List (Step × Int)} (h : MI mWI w mb K) {s : Step} (hs : s.Good) : (Instr.lookup 68 (.map (some mb)) s.v true).run Try.prog w = .ok (.tuple #[.int .i64 (getK 0 K s), .bool (hasK K s)]) w := h.look (m := mWI) hs true
theorem putWI {w : World} {mb : Nat} {K : List (Step × Int)} (h : MI mWI w mb K) (hn : K.length < maxLen) {s : Step} (hs : s.Good) (v : Int) : ∃ w', (Instr.mapUpdate 68 (.map (some mb)) s.v (.int .i64 v)).run Try.prog w = .ok () w' ∧ MI mWI w' mb ((s, v) :: dropK K s) ∧ w.grownBy w' (some mb) := h.put (m := mWI) hn hs v
structure TrV where
  p : Nat
  LA : Option Addr
  lc : Nat
  NA : Option Addr
  nc : Nat
  tb : Nat
  wb : Nat
structure TR (w0 w : World) (t : TrV) (c : Cfg) : Prop where
  hd : w.heap[t.p]? = some (.cells #[.slice t.LA c.bs.length t.lc, .slice t.NA c.ds.length t.nc, .map (some t.tb), .map (some t.wb)] 70 (0, 0))
  l : kB.C w t.LA c.bs.length (c.bs.map noKids)
  n : Kd.string.C w t.NA c.ds.length (c.ds.map (·.f0))
  tops : MI mSI w t.tb (topsK c.ds c.ds.length)
  ways : MI mWI w t.wb (waysK c.bs c.bs.length)
  lp : w0.heap.size ≤ t.p
theorem TR.below {w0 w w1 : World} {t : TrV} {c : Cfg} (h : TR w0 w t c) (k : Below w.heap.size w w1) : TR w0 w1 t c :=
  ⟨(k.block _ (blk_lt h.hd)).trans h.hd, Kd.C_below h.l k, Kd.C_below h.n k, h.tops.below k, h.ways.below k, h.lp⟩
theorem top_any (k : Int) (h0 : 0 ≤ k) (h1 : k ≤ 1000000) (w : World) : Calls Try.prog 22 #[.int .i64 k] w fun e w' => e = .returned (.int .i64 (-1 - k)) ∧ Drawn0 w w' :=
  trie_top.calls k _ w (by unfold trie_top.f; rw [show wrap64 (-1 - k) = -1 - k by unfold wrap64; omega])
theorem topsK_len (ds : List DO) : ∀ n, (topsK ds n).length ≤ n
  | 0 => by simp [topsK]
  | n + 1 => by
    unfold topsK
    have := dropK_len (topsK ds n) (dd ds n).f0
    have := topsK_len ds n
    rw [List.length_cons]
    omega
theorem info_s : (Try.prog.info? 9).map (fun i => (i.zero, i.size, i.bytes)) = some (some (.string ⟨#[]⟩), 1, 16) := by kernel_rfl
structure N1 (w wr : World) (g p tb wb : Nat) (cc : Array Value) (c : Cfg) (k : Nat) (v : Value) : Prop where
  hd : wr.heap[p]? = some (.cells #[.slice none 0 0, v, .map (some tb), .map (some wb)] 70 (0, 0))
  row : Kd.R Kd.string 9 wr w.heap.size (fun _ => True) v ((c.ds.take k).map (·.f0))
  tops : MI mSI wr tb (topsK c.ds k)
  ways : MI mWI wr wb []
  cfg : wr.heap[g]? = some (.cells cc 27 (0, 0))
  below : Below w.heap.size w wr
  lp : w.heap.size ≤ p
  lt : w.heap.size ≤ tb
  ne : tb ≠ wb
theorem MI.cells_ne {κ ν : Type} [DecidableEq κ] {m : MTy κ ν} {w : World} {mb b : Nat} {K : List (κ × ν)} (h : MI m w mb K) {cs : Array Value} {t : Nat} {f : Nat × Nat} (hb : w.heap[b]? = some (.cells cs t f)) : b ≠ mb := fun e => by
  obtain ⟨es, c, h1⟩ := h.blk
  rw [← e, hb] at h1
  cases h1
theorem MI.grown {κ ν : Type} [DecidableEq κ] {m : MTy κ ν} {w w1 : World} {mb : Nat} {K : List (κ × ν)} (h : MI m w mb K) {row : Option Nat} (hg : w.grownBy w1 row) (hne : some mb ≠ row) : MI m w1 mb K := h.frm (hg.block _ h.lt hne)
theorem MI.far {κ ν : Type} [DecidableEq κ] {m : MTy κ ν} {w : World} {mb : Nat} {K : List (κ × ν)} (h : MI m w mb K) {a : Addr} (hne : mb ≠ a.block) (v : Value) : MI m (w.setCell a v) mb K := h.frm (Below.heap_setCell _ _ _ _ hne)
theorem MI.row_ne {κ ν α : Type} [DecidableEq κ] {m : MTy κ ν} {w : World} {mb : Nat} {K : List (κ × ν)} (h : MI m w mb K) {d : Kd α} {e base : Nat} {ok : Nat → Prop} {v : Value} {xs : List α} (hr : d.R e w base ok v xs) : some mb ≠ v.ownBlock := fun e1 => by
  obtain ⟨cs, hc⟩ := Kd.R_typed hr mb e1.symm
  exact h.cells_ne hc rfl
section
variable {w wr : World} {g p tb wb : Nat} {cc : Array Value} {c : Cfg} {k : Nat} {v : Value}
theorem N1.alloc (h : N1 w wr g p tb wb cc c k v) (o : Obj) : N1 w (wr.alloc o) g p tb wb cc c k v :=
  ⟨(Below.heap_alloc _ _ _ (blk_lt h.hd)).trans h.hd, Kd.R_alloc h.row o, h.tops.frm (Below.heap_alloc _ _ _ h.tops.lt), h.ways.frm (Below.heap_alloc _ _ _ h.ways.lt), (Below.heap_alloc _ _ _ (blk_lt h.cfg)).trans h.cfg, below_alloc h.below o, h.lp, h.lt, h.ne⟩
theorem N1.drew (h : N1 w wr g p tb wb cc c k v) : N1 w wr.drew g p tb wb cc c k v := ⟨h.hd, Kd.R_drew h.row, h.tops, h.ways, h.cfg, below_drew h.below, h.lp, h.lt, h.ne⟩
structure N1h (w wr : World) (g p tb wb : Nat) (cc : Array Value) (c : Cfg) (k : Nat) (v : Value) : Prop where
  hd : wr.heap[p]? = some (.cells #[.slice none 0 0, v, .map (some tb), .map (some wb)] 70 (0, 0))
  row : Kd.R Kd.string 9 wr w.heap.size (fun _ => True) v ((c.ds.take (k + 1)).map (·.f0))
  tops : MI mSI wr tb (topsK c.ds k)
  ways : MI mWI wr wb []
  cfg : wr.heap[g]? = some (.cells cc 27 (0, 0))
  below : Below w.heap.size w wr
theorem kstr_E : ∀ q, q ∈ (9 : Nat) :: Kd.string.E → q ≠ 70 := by intro q hq; simp [Kd.string, Kd.scalar] at hq; omega
theorem N1.pushed (h : N1 w wr g p tb wb cc c k v) {w1 : World} {v1 : Value} (hg : wr.grownBy w1 v.ownBlock) (hb : Below w.heap.size w w1) (hr : Kd.R Kd.string 9 w1 w.heap.size (fun _ => True) v1 ((c.ds.take (k + 1)).map (·.f0))) :
    N1h w (w1.setCell ⟨p, 1, none⟩ v1) g p tb wb cc c k v1 := by
  have hne := Kd.R_ne h.row h.hd (by decide)
  have hd1 := (hg.block p (blk_lt h.hd) hne).trans h.hd
  have hcg : some g ≠ v.ownBlock := Kd.R_ne h.row h.cfg (by decide)
  have hcf := (hg.block g (blk_lt h.cfg) hcg).trans h.cfg
  have hpg : g ≠ p := blk_ne h.cfg h.hd (by decide)
  exact ⟨blk_put hd1 1 _ rfl, Kd.R_set hr hd1 kstr_E 1 _, (h.tops.grown hg (h.tops.row_ne h.row)).far (h.tops.cells_ne h.hd).symm _, (h.ways.grown hg (h.ways.row_ne h.row)).far (h.ways.cells_ne h.hd).symm _,
    (Below.heap_setCell _ _ _ _ hpg).trans hcf, below_set hb h.lp⟩
end
theorem row_map {α : Type} {d : Kd α} {e base : Nat} {w w1 : World} {v : Value} {xs : List α} {mb : Nat} (h : d.R e w base (fun _ => True) v xs) (hg : w.grownBy w1 (some mb)) (hm : ∃ es c, w.heap[mb]? = some (.map es c)) : d.R e w1 base (fun _ => True) v xs := by
  refine Kd.R_mono (Kd.R_step (Kd.R_bound h) ?_) (fun _ _ => trivial)
  rintro b ⟨_, _, _, q, hq, cells, hc⟩ hlt
  refine hg.block b hlt fun e1 => ?_
  obtain ⟨es, c, hm⟩ := hm
  rw [← Option.some.inj e1, hc] at hm
  cases hm
theorem N1h.drewN {w wr : World} {g p tb wb : Nat} {cc : Array Value} {c : Cfg} {k : Nat} {v : Value} (h : N1h w wr g p tb wb cc c k v) (n : Nat) : N1h w (wr.drewN n) g p tb wb cc c k v := ⟨h.hd, Kd.R_drewN h.row n, h.tops, h.ways, h.cfg, pw_below_drewN h.below n⟩
theorem N1h.drew {w wr : World} {g p tb wb : Nat} {cc : Array Value} {c : Cfg} {k : Nat} {v : Value} (h : N1h w wr g p tb wb cc c k v) : N1h w wr.drew g p tb wb cc c k v := ⟨h.hd, Kd.R_drew h.row, h.tops, h.ways, h.cfg, below_drew h.below⟩
theorem N1h.next {w wr w6 : World} {g p tb wb : Nat} {cc : Array Value} {c : Cfg} {k : Nat} {v : Value} (h : N1h w wr g p tb wb cc c k v) (hm : MI mSI w6 tb (topsK c.ds (k + 1))) (hg : wr.grownBy w6 (some tb)) (lp : w.heap.size ≤ p) (lt : w.heap.size ≤ tb) (ne : tb ≠ wb) : N1 w w6 g p tb wb cc c (k + 1) v :=
  ⟨(hg.block p (blk_lt h.hd) (fun e => h.tops.cells_ne h.hd (Option.some.inj e))).trans h.hd, row_map h.row hg h.tops.blk, hm, h.ways.grown hg (fun e => ne (Option.some.inj e).symm), (hg.block g (blk_lt h.cfg) (fun e => h.tops.cells_ne h.cfg (Option.some.inj e))).trans h.cfg,
    pw_below_grown h.below (some tb) h.below.size hg (fun i hi => by have := Option.some.inj hi; omega), lp, lt, ne⟩
def cellsN (b : BR) : Array Value := #[.string b.f0, .string b.f1, .bool b.f2, .int .i64 b.f3, .int .i64 b.f4, .bool b.f5, .string b.f6.f0, .int .i64 b.f6.f1, .int .i64 b.f6.f2, .float .f64 b.f6.f3, .bool b.f6.f4, .bool b.f6.f5, .slice none 0 0]
theorem cellsN_at {w : World} {x T : Nat} {b : BR} (h : w.heap[x]? = some (.cells (cellsN b) T (0, 0))) :
    w.cell? ⟨x, 0, none⟩ = some (.string b.f0) ∧ w.cell? ⟨x, 1, none⟩ = some (.string b.f1) ∧ w.cell? ⟨x, 2, none⟩ = some (.bool b.f2) ∧ w.cell? ⟨x, 3, none⟩ = some (.int .i64 b.f3) ∧ w.cell? ⟨x, 4, none⟩ = some (.int .i64 b.f4) ∧ w.cell? ⟨x, 5, none⟩ = some (.bool b.f5) ∧ w.cell? ⟨x, 6, none⟩ = some (.string b.f6.f0) ∧ w.cell? ⟨x, 7, none⟩ = some (.int .i64 b.f6.f1) ∧ w.cell? ⟨x, 8, none⟩ = some (.int .i64 b.f6.f2) ∧ w.cell? ⟨x, 9, none⟩ = some (.float .f64 b.f6.f3) ∧ w.cell? ⟨x, 10, none⟩ = some (.bool b.f6.f4) ∧ w.cell? ⟨x, 11, none⟩ = some (.bool b.f6.f5) ∧ w.cell? ⟨x, 12, none⟩ = some (.slice none 0 0) :=
  ⟨(blk_cell h 0).trans rfl, (blk_cell h 1).trans rfl, (blk_cell h 2).trans rfl, (blk_cell h 3).trans rfl, (blk_cell h 4).trans rfl, (blk_cell h 5).trans rfl, (blk_cell h 6).trans rfl, (blk_cell h 7).trans rfl, (blk_cell h 8).trans rfl, (blk_cell h 9).trans rfl, (blk_cell h 10).trans rfl, (blk_cell h 11).trans rfl, (blk_cell h 12).trans rfl⟩
theorem wf_int {n : Int} (h0 : -9223372036854775808 ≤ n) (h1 : n ≤ 9223372036854775807) : (Lit.int .i64 n).wf = true := by
  have e1 : IntKind.min .i64 = -9223372036854775808 := by decide
  have e2 : IntKind.max .i64 = 9223372036854775807 := by decide
  simp [Lit.wf, e1, e2, h0, h1]
theorem goodS {n : Int} {k v : ByteArray} {a : Bool} (h0 : -9223372036854775808 ≤ n) (h1 : n ≤ 9223372036854775807) (hk : k.size ≤ 9223372036854775807) (hv : v.size ≤ 9223372036854775807) : Step.Good ⟨n, k, v, a⟩ := ⟨wf_int h0 h1, by unfold maxLen; omega, by unfold maxLen; omega⟩
theorem waysK_len (bs : List BR) : ∀ n, (waysK bs n).length ≤ n
  | 0 => by simp [waysK]
  | n + 1 => by
    unfold waysK
    have := dropK_len (waysK bs n) (stepOf (br bs n))
    have := waysK_len bs n
    rw [List.length_cons]
    omega
theorem getD_br {l : List BR} {k : Nat} (h : k < l.length) : l.drop k = l.getD k zB :: l.drop (k + 1) ∧ l.take (k + 1) = l.take k ++ [l.getD k zB] := by
  have e : l.getD k zB = l[k] := by rw [List.getD_eq_getElem?_getD, List.getElem?_eq_getElem h]; rfl
  rw [e]
  exact ⟨List.drop_eq_getElem_cons h, List.take_succ_eq_append_getElem h⟩
structure N2 (w wr : World) (g p tb wb : Nat) (cc : Array Value) (c : Cfg) (k : Nat) (u v : Value) : Prop where
  hd : wr.heap[p]? = some (.cells #[u, v, .map (some tb), .map (some wb)] 70 (0, 0))
  rowL : Kd.R kB 46 wr w.heap.size (fun _ => True) u ((c.bs.take k).map noKids)
  rowN : Kd.R Kd.string 9 wr w.heap.size (fun _ => True) v (c.ds.map (·.f0))
  tops : MI mSI wr tb (topsK c.ds c.ds.length)
  ways : MI mWI wr wb (waysK c.bs k)
  cfg : wr.heap[g]? = some (.cells cc 27 (0, 0))
  below : Below w.heap.size w wr
  lp : w.heap.size ≤ p
  lt : w.heap.size ≤ wb
  ne : tb ≠ wb
structure N2h (w wr : World) (g p tb wb : Nat) (cc : Array Value) (c : Cfg) (k : Nat) (u v : Value) : Prop where
  hd : wr.heap[p]? = some (.cells #[u, v, .map (some tb), .map (some wb)] 70 (0, 0))
  rowL : Kd.R kB 46 wr w.heap.size (fun _ => True) u ((c.bs.take (k + 1)).map noKids)
  rowN : Kd.R Kd.string 9 wr w.heap.size (fun _ => True) v (c.ds.map (·.f0))
  tops : MI mSI wr tb (topsK c.ds c.ds.length)
  ways : MI mWI wr wb (waysK c.bs k)
  cfg : wr.heap[g]? = some (.cells cc 27 (0, 0))
  below : Below w.heap.size w wr
theorem kB_E : ∀ q, q ∈ (46 : Nat) :: kB.E → q ≠ 70 := by intro q hq; simp [kB, k46, k44, Kd.iso, Kd.pair, Kd.string, Kd.bool, Kd.int, Kd.scalar, Kd.slice] at hq; omega
theorem kstr_E2 : ∀ q, q ∈ (9 : Nat) :: Kd.string.E → q ≠ 46 := by intro q hq; simp [Kd.string, Kd.scalar] at hq; omega
section
variable {w wr : World} {g p tb wb : Nat} {cc : Array Value} {c : Cfg} {k : Nat} {u v : Value}
theorem N2.alloc (h : N2 w wr g p tb wb cc c k u v) (o : Obj) : N2 w (wr.alloc o) g p tb wb cc c k u v :=
  ⟨(Below.heap_alloc _ _ _ (blk_lt h.hd)).trans h.hd, Kd.R_alloc h.rowL o, Kd.R_alloc h.rowN o, h.tops.frm (Below.heap_alloc _ _ _ h.tops.lt), h.ways.frm (Below.heap_alloc _ _ _ h.ways.lt), (Below.heap_alloc _ _ _ (blk_lt h.cfg)).trans h.cfg, below_alloc h.below o, h.lp, h.lt, h.ne⟩
theorem N2.drew (h : N2 w wr g p tb wb cc c k u v) : N2 w wr.drew g p tb wb cc c k u v := ⟨h.hd, Kd.R_drew h.rowL, Kd.R_drew h.rowN, h.tops, h.ways, h.cfg, below_drew h.below, h.lp, h.lt, h.ne⟩
theorem N2h.drew (h : N2h w wr g p tb wb cc c k u v) : N2h w wr.drew g p tb wb cc c k u v := ⟨h.hd, Kd.R_drew h.rowL, Kd.R_drew h.rowN, h.tops, h.ways, h.cfg, below_drew h.below⟩
theorem N2h.drewN (h : N2h w wr g p tb wb cc c k u v) (n : Nat) : N2h w (wr.drewN n) g p tb wb cc c k u v := ⟨h.hd, Kd.R_drewN h.rowL n, Kd.R_drewN h.rowN n, h.tops, h.ways, h.cfg, pw_below_drewN h.below n⟩
theorem N2.pushed (h : N2 w wr g p tb wb cc c k u v) {w1 : World} {u1 : Value} (hg : wr.grownBy w1 u.ownBlock) (hb : Below w.heap.size w w1) (hr : Kd.R kB 46 w1 w.heap.size (fun _ => True) u1 ((c.bs.take (k + 1)).map noKids)) :
    N2h w (w1.setCell ⟨p, 0, none⟩ u1) g p tb wb cc c k u1 v := by
  have hne := Kd.R_ne h.rowL h.hd (by decide)
  have hd1 := (hg.block p (blk_lt h.hd) hne).trans h.hd
  have hcg : some g ≠ u.ownBlock := Kd.R_ne h.rowL h.cfg (by decide)
  have hcf := (hg.block g (blk_lt h.cfg) hcg).trans h.cfg
  have hpg : g ≠ p := blk_ne h.cfg h.hd (by decide)
  exact ⟨blk_put hd1 0 _ rfl, Kd.R_set hr hd1 kB_E 0 _, Kd.R_set (Kd.R_over h.rowN h.rowL kstr_E2 hg) hd1 kstr_E 0 _, (h.tops.grown hg (h.tops.row_ne h.rowL)).far (h.tops.cells_ne h.hd).symm _, (h.ways.grown hg (h.ways.row_ne h.rowL)).far (h.ways.cells_ne h.hd).symm _,
    (Below.heap_setCell _ _ _ _ hpg).trans hcf, below_set hb h.lp⟩
theorem N2h.next {w6 : World} (h : N2h w wr g p tb wb cc c k u v) (hm : MI mWI w6 wb (waysK c.bs (k + 1))) (hg : wr.grownBy w6 (some wb)) (lp : w.heap.size ≤ p) (lt : w.heap.size ≤ wb) (ne : tb ≠ wb) : N2 w w6 g p tb wb cc c (k + 1) u v :=
  ⟨(hg.block p (blk_lt h.hd) (fun e => h.ways.cells_ne h.hd (Option.some.inj e))).trans h.hd, row_map h.rowL hg h.ways.blk, row_map h.rowN hg h.ways.blk, h.tops.grown hg (fun e => ne (Option.some.inj e)), hm, (hg.block g (blk_lt h.cfg) (fun e => h.ways.cells_ne h.cfg (Option.some.inj e))).trans h.cfg,
    pw_below_grown h.below (some wb) h.below.size hg (fun i hi => by have := Option.some.inj hi; omega), lp, lt, ne⟩
end
set_option maxHeartbeats 4000000 in
theorem new_bad {w : World} {v : CfV} {c : Cfg} (cf : CfC w v c) (wf : ∀ b ∈ c.bs, WfB b) (wd : ∀ d ∈ c.ds, WfD d) (hc : chk mayB nameB c = false) :
    Calls Try.prog 8 #[v.val c] w fun e w' => e = .returned (.tuple #[.pointer none, .int .i64 1]) ∧ Below w.heap.size w w' := by
  obtain ⟨vA, vc, vB, vd⟩ := v
  have CF := Aside0.mk cf
  have WF := Aside0.mk wf
  have WD := Aside0.mk wd
  have HC := Aside0.mk hc
  clear hc cf wf wd
  unfold CfV.val
  dsimp only
  have hb0 := below_alloc (Below.refl w.heap.size w) (.cells #[.slice vA c.ds.length vc, .slice vB c.bs.length vd] 27)
  have HBA := Aside0.mk hb0
  clear hb0
  have HCK := Aside0.mk (check_any (v := ⟨vA, vc, vB, vd⟩) (CF.out.below HBA.out) WF.out WD.out)
  rw [HC.out] at HCK
  unfold CfV.val at HCK
  dsimp only at HCK
  go_enter Try.func8, Try.ntmps8
  go_wp2_with fail
  (with_reducible refine (HCK.out).mono ?_); rintro e w3 ⟨rfl, hb3⟩
  have HB3 := Aside0.mk (below_then HBA.out HBA.out.size hb3)
  clear hb3
  go_wp2
  go_ret2
  exact ⟨rfl, HB3.out⟩
set_option maxHeartbeats 4000000 in
theorem new_ok {w : World} {v : CfV} {c : Cfg} (cf : CfC w v c) (wf : ∀ b ∈ c.bs, WfB b) (wd : ∀ d ∈ c.ds, WfD d) (hc : chk mayB nameB c = true) :
    Calls Try.prog 8 #[v.val c] w fun e w' => ∃ t, e = .returned (.tuple #[.pointer (some ⟨t.p, 0, none⟩), .int .i64 0]) ∧ TR w w' t c ∧ Below w.heap.size w w' := by
  obtain ⟨vA, vc, vB, vd⟩ := v
  have hmxb := Kd.C_max cf.bs
  have hmxd := Kd.C_max cf.ds
  have CF := Aside0.mk cf
  have WF := Aside0.mk wf
  have WD := Aside0.mk wd
  have HC := Aside0.mk hc
  obtain ⟨htr, _, hd16, hb500, _, _⟩ := chk_tree mayB_of hc
  have HTR := Aside0.mk htr
  clear htr
  have hmm := @run_makeMap Try.prog
  clear hc cf wf wd
  unfold CfV.val
  dsimp only
  have hg0 := blk_new w (.cells #[.slice vA c.ds.length vc, .slice vB c.bs.length vd] 27)
  have hb0 := below_alloc (Below.refl w.heap.size w) (.cells #[.slice vA c.ds.length vc, .slice vB c.bs.length vd] 27)
  have HG0 := Aside0.mk hg0
  have HBA := Aside0.mk hb0
  clear hg0 hb0
  have HCK := Aside0.mk (check_any (v := ⟨vA, vc, vB, vd⟩) (CF.out.below HBA.out) WF.out WD.out)
  rw [HC.out] at HCK
  unfold CfV.val at HCK
  dsimp only at HCK
  go_enter Try.func8, Try.ntmps8
  go_wp2_with fail
  (with_reducible refine (HCK.out).mono ?_); rintro e w3 ⟨rfl, hb3⟩
  have HB3 := Aside0.mk (below_then HBA.out HBA.out.size hb3)
  have HG3 := Aside0.mk ((hb3.block _ (blk_lt HG0.out)).trans HG0.out)
  have g0 : w3.cell? ⟨w.heap.size, 0, none⟩ = some (.slice vA c.ds.length vc) := (blk_cell HG3.out 0).trans rfl
  have g1 : w3.cell? ⟨w.heap.size, 1, none⟩ = some (.slice vB c.bs.length vd) := (blk_cell HG3.out 1).trans rfl
  have hz3 : w.heap.size < w3.heap.size := blk_lt HG3.out
  have hb4 := below_alloc (below_alloc (below_alloc (Below.refl w3.heap.size w3) (.map #[] 0)) (.map #[] 0)) (.cells #[.slice none 0 0, .slice none 0 0, .map (some w3.heap.size), .map (some (w3.heap.size + 1))] 70)
  have g40 := pw_cell_below hb4 g0
  have g41 := pw_cell_below hb4 g1
  have hs4 : ((w3.alloc (.map #[] 0)).alloc (.map #[] 0)).heap.size = w3.heap.size + 1 + 1 := by simp
  have hp4 := blk_new ((w3.alloc (.map #[] 0)).alloc (.map #[] 0)) (.cells #[.slice none 0 0, .slice none 0 0, .map (some w3.heap.size), .map (some (w3.heap.size + 1))] 70)
  rw [hs4] at hp4
  have hmt : MI mSI (((w3.alloc (.map #[] 0)).alloc (.map #[] 0)).alloc (.cells #[.slice none 0 0, .slice none 0 0, .map (some w3.heap.size), .map (some (w3.heap.size + 1))] 70)) w3.heap.size [] := by
    have h1 := MI.made (m := mSI) w3
    exact (h1.frm (Below.heap_alloc _ (.map #[] 0) _ h1.lt)).frm (Below.heap_alloc _ _ _ (by simp; omega))
  have hmw : MI mWI (((w3.alloc (.map #[] 0)).alloc (.map #[] 0)).alloc (.cells #[.slice none 0 0, .slice none 0 0, .map (some w3.heap.size), .map (some (w3.heap.size + 1))] 70)) (w3.heap.size + 1) [] := by
    have h1 := MI.made (m := mWI) (w3.alloc (.map #[] 0))
    rw [show (w3.alloc (.map #[] 0)).heap.size = w3.heap.size + 1 by simp] at h1
    exact h1.frm (Below.heap_alloc _ _ _ h1.lt)
  have HMT := Aside0.mk hmt
  have HMW := Aside0.mk hmw
  have HP4 := Aside0.mk hp4
  have HB4 := Aside0.mk (below_then HB3.out HB3.out.size hb4)
  have HG4 := Aside0.mk ((hb4.block _ (blk_lt HG3.out)).trans HG3.out)
  clear hb3 HG0 HBA hb4 hp4 hmt hmw hs4 g0 g1
  go_wp2
  generalize w3.heap.size = q at *
  have HN0 := Aside0.mk (show N1 w _ w.heap.size (q + 1 + 1) q (q + 1) #[.slice vA c.ds.length vc, .slice vB c.bs.length vd] c 0 (.slice none 0 0) from ⟨HP4.out, by simpa using Kd.R_nil Kd.string _ _ _ _, HMT.out, HMW.out, HG4.out, HB4.out, by omega, by omega, by omega⟩)
  clear HP4 HMT HMW HG4 HB4 g40 g41 HG3 HB3 HCK
  go_loopw [20] (fun i wr => ∃ (k : Nat) (v : Value), k ≤ c.ds.length ∧ i = .int .i64 k ∧ Aside0 (N1 w wr w.heap.size (q + 1 + 1) q (q + 1) #[.slice vA c.ds.length vc, .slice vB c.bs.length vd] c k v)) (fun i _ => c.ds.length - (intOf i).toNat)
  case atStart => exact ⟨0, _, Nat.zero_le _, rfl, HN0⟩
  case round =>
    obtain ⟨k, v, hkl, rfl, HN⟩ := hrel
    clear HN0
    by_cases hlt : k < c.ds.length
    · obtain ⟨adb, A1, c1, eb, q0, q1, l1, kk1⟩ := at_T53 CF.out.ds (k : Int) (by omega) (by omega)
      obtain rfl : vA = some adb := eb
      have er : rd_T53 c.ds (k : Int) = c.ds.getD k zD := by unfold rd_T53; rw [Int.toNat_natCast]
      rw [er] at q0 q1
      rw [Int.toNat_natCast] at q0 q1
      replace q0 := pw_cell_below HN.out.below q0
      replace q1 := pw_cell_below HN.out.below q1
      obtain ⟨m1, m2, m3⟩ := getD_do hlt
      have hwd : (c.ds.getD k zD).f0.size ≤ maxLen := WD.out _ m1
      have htk : topsK c.ds (k + 1) = ((c.ds.getD k zD).f0, -1 - (k : Int)) :: dropK (topsK c.ds k) (c.ds.getD k zD).f0 := rfl
      have HTK := Aside0.mk htk
      have HT := Aside0.mk m3
      clear m1 m2 m3 er l1 kk1 htk
      generalize c.ds.getD k zD = d at *
      have d4 : decide (k < c.ds.length) = true := decide_eq_true hlt
      have HWD := Aside0.mk hwd
      clear hwd
      have HN1 := Aside0.mk (HN.out.alloc (.cells #[.string d.f0, .slice A1 d.f1.length c1] 53))
      have hxA := blk_new wr (.cells #[.string d.f0, .slice A1 d.f1.length c1] 53)
      have HXA := Aside0.mk hxA
      clear hxA
      go_wp2
      have hsz : (wr.alloc (.cells #[.string d.f0, .slice A1 d.f1.length c1] 53)).heap.size = wr.heap.size + 1 := by simp
      generalize hW1 : wr.alloc (.cells #[.string d.f0, .slice A1 d.f1.length c1] 53) = W1 at *
      generalize hxb : wr.heap.size = xb at *
      have p1 : W1.cell? ⟨q + 1 + 1, 1, none⟩ = some v := (blk_cell HN1.out.hd 1).trans rfl
      have x0 : W1.cell? ⟨xb, 0, none⟩ = some (.string d.f0) := (blk_cell HXA.out 0).trans rfl
      have z1 : q + 1 + 1 < W1.heap.size := blk_lt HN1.out.hd
      have z2 : xb < W1.heap.size := blk_lt HXA.out
      have hlm : (((c.ds.take k).map (·.f0)).length + 1) * 16 ≤ 140737488355328 := by rw [List.length_map, List.length_take]; omega
      clear hW1 hxb q0 q1
      have HN2 := Aside0.mk HN1.out.drew
      have hx2 : W1.drew.heap[xb]? = some (.cells #[.string d.f0, .slice A1 d.f1.length c1] 53 (0, 0)) := HXA.out
      have HX2 := Aside0.mk hx2
      have R1 := Aside0.mk HN2.out.row
      have R2 := Aside0.mk HN2.out.below
      have R3 := Aside0.mk HN2.out.below.size
      have HL := Aside0.mk hlm
      obtain ⟨xs, hxs⟩ : ∃ xs, xs = (c.ds.take k).map (·.f0) := ⟨_, rfl⟩
      rw [← hxs] at R1 HL
      have HXS := Aside0.mk hxs
      clear hx2 hlm hxs HN1 HXA
      refine start_ (n := 12) (S := fun w' => w'.cell? ⟨q + 1 + 1, 1, none⟩ = some v ∧ w'.cell? ⟨xb, 0, none⟩ = some (.string d.f0)) (ds := [11]) #[false, false, false, false, false, false, false, false, false, false, false, false] (by kernel_rfl) rfl rfl (⟨p1, x0⟩) (fun hHeld => ?_)
      clear p1 x0 z1 z2
      generalize W1.drew = W2 at *
      refine pure_ (i := 0) (N := (some 25)) (v := ?_) (a' := ?_) #[true, false, false, false, false, false, false, false, false, false, false, false] rfl rfl (by kernel_rfl) (fun _ _ _ h => h) (Or.inl ⟨by rfl, ?_⟩) ?_ ?_
      rotate_left
      · intro w'
        go_simp
        try with_reducible rfl
      rotate_left
      · simp only [Act.put, List.setIfInBounds_toArray, List.set_cons_zero, List.set_cons_succ, i64_w, i32_w]
        rfl
      refine pure_ (i := 1) (N := (some 26)) (v := ?_) (a' := ?_) #[true, true, false, false, false, false, false, false, false, false, false, false] rfl rfl (by kernel_rfl) (fun _ _ _ h => h) (Or.inl ⟨by rfl, ?_⟩) ?_ ?_
      rotate_left
      · intro w'
        go_simp
        try with_reducible rfl
      rotate_left
      · simp only [Act.put, List.setIfInBounds_toArray, List.set_cons_zero, List.set_cons_succ, i64_w, i32_w]
        rfl
      refine pure_ (i := 2) (N := (some 27)) (v := ?_) (a' := ?_) #[true, true, true, false, false, false, false, false, false, false, false, false] rfl rfl (by kernel_rfl) (fun _ _ _ h => h) (Or.inl ⟨by rfl, ?_⟩) ?_ ?_
      rotate_left
      · intro w'
        go_simp
        try with_reducible rfl
      rotate_left
      · simp only [Act.put, List.setIfInBounds_toArray, List.set_cons_zero, List.set_cons_succ, i64_w, i32_w]
        rfl
      refine pure_ (i := 3) (N := (some 28)) (v := ?_) (a' := ?_) #[true, true, true, true, false, false, false, false, false, false, false, false] rfl rfl (by kernel_rfl) (fun _ _ _ h => h) (Or.inl ⟨by rfl, ?_⟩) ?_ ?_
      rotate_left
      · intro w'
        go_simp
        try with_reducible rfl
      rotate_left
      · simp only [Act.put, List.setIfInBounds_toArray, List.set_cons_zero, List.set_cons_succ, i64_w, i32_w]
        rfl
      refine pure_ (i := 5) (N := (some 30)) (v := ?_) (a' := ?_) #[true, true, true, true, false, true, false, false, false, false, false, false] rfl rfl (by kernel_rfl) (fun _ _ _ h => h) (Or.inl ⟨by rfl, ?_⟩) ?_ ?_
      rotate_left
      · intro w'
        go_simp
        try with_reducible rfl
      rotate_left
      · simp only [Act.put, List.setIfInBounds_toArray, List.set_cons_zero, List.set_cons_succ, i64_w, i32_w]
        rfl
      refine take_ (i := 4) (N := (some 29)) (v := ?_) (a' := ?_) #[true, true, true, true, true, true, false, false, false, false, false, false] rfl rfl (by kernel_rfl) (fun _ _ _ h => h) (Or.inl ⟨by rfl, ?_⟩) hHeld ?_ ?_
      rotate_left
      · intro w' s0
        obtain ⟨s0, s1⟩ := s0
        go_simp
        try with_reducible rfl
      rotate_left
      · simp only [Act.put, List.setIfInBounds_toArray, List.set_cons_zero, List.set_cons_succ, i64_w, i32_w]
        rfl
      refine take_ (i := 6) (N := (some 31)) (v := ?_) (a' := ?_) #[true, true, true, true, true, true, true, false, false, false, false, false] rfl rfl (by kernel_rfl) (fun _ _ _ h => h) (Or.inl ⟨by rfl, ?_⟩) hHeld ?_ ?_
      rotate_left
      · intro w' s0
        obtain ⟨s0, s1⟩ := s0
        go_simp
        try with_reducible rfl
      rotate_left
      · simp only [Act.put, List.setIfInBounds_toArray, List.set_cons_zero, List.set_cons_succ, i64_w, i32_w]
        rfl
      refine one_ (i := 7) (N := (some 32)) #[true, true, true, true, true, true, true, true, false, false, false, false] rfl rfl (by kernel_rfl) (by decide) (fun K hK => ?_)
      refine value_ (w1 := ?_) (v := ?_) (by rfl) rfl ?_ ?_
      rotate_left 2
      · go_simp
        constructor
        · rfl
        · rfl
      refine hK.out _ _ ⟨pw_cell_below (below_alloc (Below.refl _ _) _) hHeld.1, pw_cell_below (below_alloc (Below.refl _ _) _) hHeld.2⟩ (fun hHeld => ?_)
      clear hK K
      refine norm_ (a' := ?_) ?_ ?_
      rotate_left
      · show Act.put _ (some 32) _ = _
        simp only [Act.put, List.setIfInBounds_toArray, List.set_cons_zero, List.set_cons_succ, i64_w, i32_w]
        rfl
      refine one_ (i := 8) (N := (some 33)) #[true, true, true, true, true, true, true, true, true, false, false, false] rfl rfl (by kernel_rfl) (by decide) (fun K hK => ?_)
      refine Kd.R_append_step Kd.string (w0 := w) w.heap.size (by rfl) (.tmp 29) (.tmp 32) 62 9 (.string ⟨#[]⟩) 16 rfl Try.underlying62 info_s rfl (by decide) (by omega) v xs d.f0 [.string d.f0] (fun _ => True) (fun _ => False) rfl rfl rfl (fun _ hk => hk.elim) (fun _ _ => trivial) R1.out R2.out R3.out HL.out ?_
      intro v1 w1 hr1 hb1 hg1 hat1
      obtain ⟨Av, cv, hv1⟩ := Kd.R_slice hr1
      obtain ⟨n1, hn1⟩ : ∃ n, n = (xs ++ [d.f0]).length := ⟨_, rfl⟩
      rw [← hn1] at hv1
      subst hv1
      have hh1 := (hg1.block _ (blk_lt HN2.out.hd) (Kd.R_ne HN2.out.row HN2.out.hd (by decide))).trans HN2.out.hd
      have hx1 := (hg1.block _ (blk_lt HX2.out) (Kd.R_ne HN2.out.row HX2.out (by decide))).trans HX2.out
      have f1 := blk_frozen hh1 1
      have f2 : w1.cell? ⟨q + 1 + 1, 1, none⟩ = some v := (blk_cell hh1 1).trans rfl
      have f3 : w1.cell? ⟨xb, 0, none⟩ = some (.string d.f0) := (blk_cell hx1 0).trans rfl
      have HNN := Aside0.mk hn1
      have HR1 := Aside0.mk hr1
      have HB1 := Aside0.mk hb1
      have HG1 := Aside0.mk hg1
      have HX1 := Aside0.mk hx1
      clear hr1 hb1 hg1 hat1 hn1 hh1 hx1
      refine hK.out _ _ ⟨f2, f3⟩ (fun hHeld => ?_)
      clear hK K
      refine norm_ (a' := ?_) ?_ ?_
      rotate_left
      · show Act.put _ (some 33) _ = _
        simp only [Act.put, List.setIfInBounds_toArray, List.set_cons_zero, List.set_cons_succ, i64_w, i32_w]
        rfl
      refine pure_ (i := 9) (N := (some 34)) (v := ?_) (a' := ?_) #[true, true, true, true, true, true, true, true, true, true, false, false] rfl rfl (by kernel_rfl) (fun _ _ _ h => h) (Or.inl ⟨by rfl, ?_⟩) ?_ ?_
      rotate_left
      · intro w'
        go_simp
        try with_reducible rfl
      rotate_left
      · simp only [Act.put, List.setIfInBounds_toArray, List.set_cons_zero, List.set_cons_succ, i64_w, i32_w]
        rfl
      refine pure_ (i := 10) (N := (some 35)) (v := ?_) (a' := ?_) #[true, true, true, true, true, true, true, true, true, true, true, false] rfl rfl (by kernel_rfl) (fun _ _ _ h => h) (Or.inl ⟨by rfl, ?_⟩) ?_ ?_
      rotate_left
      · intro w'
        go_simp
        try with_reducible rfl
      rotate_left
      · simp only [Act.put, List.setIfInBounds_toArray, List.set_cons_zero, List.set_cons_succ, i64_w, i32_w]
        rfl
      refine last_ (i := 11) (N := none) #[true, true, true, true, true, true, true, true, true, true, true, true] rfl rfl (by kernel_rfl) (by decide) (fun K hK => ?_)
      refine skip_ (w1 := ?_) (by rfl) rfl ?_ ?_
      rotate_left
      · go_simp
        rfl
      refine hK.out _ _ ?_
      clear hK K
      refine done_ (by kernel_rfl) ?_
      have hr1 := HR1.out
      rw [HXS.out, show (c.ds.take k).map (·.f0) ++ [d.f0] = (c.ds.take (k + 1)).map (·.f0) by rw [HT.out, List.map_append]; rfl] at hr1
      have HN3 := Aside0.mk (HN2.out.pushed HG1.out HB1.out hr1)
      have hx3 : (w1.setCell ⟨q + 1 + 1, 1, none⟩ (.slice Av n1 cv)).heap[xb]? = some (.cells #[.string d.f0, .slice A1 d.f1.length c1] 53 (0, 0)) :=
        (Below.heap_setCell _ _ _ _ (blk_ne HX2.out HN2.out.hd (by decide))).trans HX1.out
      have HX3 := Aside0.mk hx3
      clear hx3 hr1 f1 f2 f3 hHeld
      generalize hW3 : w1.setCell ⟨q + 1 + 1, 1, none⟩ (.slice Av n1 cv) = W3 at *
      have HN4 := Aside0.mk HN3.out.drew
      have HX4 := Aside0.mk (show W3.drew.heap[xb]? = some (.cells #[.string d.f0, .slice A1 d.f1.length c1] 53 (0, 0)) from HX3.out)
      clear hW3 HX3 HN3 HR1 HG1 HB1
      go_wp2
      refine start_ (n := 9) (S := fun w' => w'.cell? ⟨q + 1 + 1, 2, none⟩ = some (.map (some q)) ∧ w'.cell? ⟨xb, 0, none⟩ = some (.string d.f0)) (ds := [8]) #[false, false, false, false, false, false, false, false, false] (by kernel_rfl) rfl rfl (⟨(blk_cell HN4.out.hd 2).trans rfl, (blk_cell HX4.out 0).trans rfl⟩) (fun hHeld => ?_)
      generalize W3.drew = W4 at *
      refine pure_ (i := 0) (N := (some 36)) (v := ?_) (a' := ?_) #[true, false, false, false, false, false, false, false, false] rfl rfl (by kernel_rfl) (fun _ _ _ h => h) (Or.inl ⟨by rfl, ?_⟩) ?_ ?_
      rotate_left
      · intro w'
        go_simp
        try with_reducible rfl
      rotate_left
      · simp only [Act.put, List.setIfInBounds_toArray, List.set_cons_zero, List.set_cons_succ, i64_w, i32_w]
        rfl
      refine pure_ (i := 1) (N := (some 37)) (v := ?_) (a' := ?_) #[true, true, false, false, false, false, false, false, false] rfl rfl (by kernel_rfl) (fun _ _ _ h => h) (Or.inl ⟨by rfl, ?_⟩) ?_ ?_
      rotate_left
      · intro w'
        go_simp
        try with_reducible rfl
      rotate_left
      · simp only [Act.put, List.setIfInBounds_toArray, List.set_cons_zero, List.set_cons_succ, i64_w, i32_w]
        rfl
      refine pure_ (i := 2) (N := (some 38)) (v := ?_) (a' := ?_) #[true, true, true, false, false, false, false, false, false] rfl rfl (by kernel_rfl) (fun _ _ _ h => h) (Or.inl ⟨by rfl, ?_⟩) ?_ ?_
      rotate_left
      · intro w'
        go_simp
        try with_reducible rfl
      rotate_left
      · simp only [Act.put, List.setIfInBounds_toArray, List.set_cons_zero, List.set_cons_succ, i64_w, i32_w]
        rfl
      refine pure_ (i := 4) (N := (some 40)) (v := ?_) (a' := ?_) #[true, true, true, false, true, false, false, false, false] rfl rfl (by kernel_rfl) (fun _ _ _ h => h) (Or.inl ⟨by rfl, ?_⟩) ?_ ?_
      rotate_left
      · intro w'
        go_simp
        try with_reducible rfl
      rotate_left
      · simp only [Act.put, List.setIfInBounds_toArray, List.set_cons_zero, List.set_cons_succ, i64_w, i32_w]
        rfl
      refine pure_ (i := 6) (N := (some 42)) (v := ?_) (a' := ?_) #[true, true, true, false, true, false, true, false, false] rfl rfl (by kernel_rfl) (fun _ _ _ h => h) (Or.inl ⟨by rfl, ?_⟩) ?_ ?_
      rotate_left
      · intro w'
        go_simp
        try with_reducible rfl
      rotate_left
      · simp only [Act.put, List.setIfInBounds_toArray, List.set_cons_zero, List.set_cons_succ, i64_w, i32_w]
        rfl
      refine take_ (i := 3) (N := (some 39)) (v := ?_) (a' := ?_) #[true, true, true, true, true, false, true, false, false] rfl rfl (by kernel_rfl) (fun _ _ _ h => h) (Or.inl ⟨by rfl, ?_⟩) hHeld ?_ ?_
      rotate_left
      · intro w' s0
        obtain ⟨s0, s1⟩ := s0
        go_simp
        try with_reducible rfl
      rotate_left
      · simp only [Act.put, List.setIfInBounds_toArray, List.set_cons_zero, List.set_cons_succ, i64_w, i32_w]
        rfl
      refine take_ (i := 5) (N := (some 41)) (v := ?_) (a' := ?_) #[true, true, true, true, true, true, true, false, false] rfl rfl (by kernel_rfl) (fun _ _ _ h => h) (Or.inl ⟨by rfl, ?_⟩) hHeld ?_ ?_
      rotate_left
      · intro w' s0
        obtain ⟨s0, s1⟩ := s0
        go_simp
        try with_reducible rfl
      rotate_left
      · simp only [Act.put, List.setIfInBounds_toArray, List.set_cons_zero, List.set_cons_succ, i64_w, i32_w]
        rfl
      refine one_ (i := 7) (N := (some 43)) #[true, true, true, true, true, true, true, true, false] rfl rfl (by kernel_rfl) (by decide) (fun K hK => ?_)
      refine goes_ Try.func22 (by kernel_rfl) rfl #[.int .i64 (k : Int)] (by rfl) rfl rfl (by (try simp only [List.map_toArray, List.map_cons, List.map_nil]); first | done | rfl) ?_
      with_reducible refine (top_any (k : Int) (by omega) (by omega) _).mono ?_
      rintro e w5 ⟨rfl, ⟨nd, hw5⟩⟩
      refine ⟨_, rfl, ?_⟩
      have hn5 := HN4.out.drewN nd
      rw [← hw5] at hn5
      have HN5 := Aside0.mk hn5
      have HX5 := Aside0.mk (show w5.heap[xb]? = some (.cells #[.string d.f0, .slice A1 d.f1.length c1] 53 (0, 0)) by rw [hw5]; exact HX4.out)
      clear hn5 hw5
      refine hK.out _ _ ⟨(blk_cell HN5.out.hd 2).trans rfl, (blk_cell HX5.out 0).trans rfl⟩ (fun hHeld => ?_)
      clear hK K
      refine norm_ (a' := ?_) ?_ ?_
      rotate_left
      · show Act.put _ (some 43) _ = _
        simp only [Act.put, List.setIfInBounds_toArray, List.set_cons_zero, List.set_cons_succ, i64_w, i32_w]
        rfl
      refine last_ (i := 8) (N := none) #[true, true, true, true, true, true, true, true, true] rfl rfl (by kernel_rfl) (by decide) (fun K hK => ?_)
      have hl5 := topsK_len c.ds k
      obtain ⟨w6, hrun, hm6, hgr⟩ := putSI HN5.out.tops (by unfold maxLen; omega) HWD.out (-1 - (k : Int))
      rw [← HTK.out] at hm6
      have HN6 := Aside0.mk (HN5.out.next hm6 hgr HN.out.lp HN.out.lt HN.out.ne)
      clear hm6 hgr hl5
      refine skip_ (w1 := w6) (by rfl) rfl ?_ ?_
      · go_simp
      refine hK.out _ _ ?_
      clear hK K
      refine done_ (by kernel_rfl) ?_
      go_wp2
      go_roundw
      case rel => exact ⟨k + 1, _, by omega, by go_num, HN6⟩
      case measure => simp [intOf]; omega
    · obtain rfl : k = c.ds.length := by omega
      have g1 : wr.cell? ⟨w.heap.size, 1, none⟩ = some (.slice vB c.bs.length vd) := (blk_cell HN.out.cfg 1).trans rfl
      go_wp2
      have HM0 := Aside0.mk (show N2 w wr w.heap.size (q + 1 + 1) q (q + 1) #[.slice vA c.ds.length vc, .slice vB c.bs.length vd] c 0 (.slice none 0 0) v from ⟨HN.out.hd, by simpa using Kd.R_nil kB _ _ _ _, by have := HN.out.row; rwa [List.take_length] at this, HN.out.tops, HN.out.ways, HN.out.cfg, HN.out.below, by omega, by omega, by omega⟩)
      clear HN g1
      generalize wr = wz at HM0
      go_loopw [48] (fun i wr => ∃ (k : Nat) (u : Value), k ≤ c.bs.length ∧ i = .int .i64 k ∧ Aside0 (N2 w wr w.heap.size (q + 1 + 1) q (q + 1) #[.slice vA c.ds.length vc, .slice vB c.bs.length vd] c k u v)) (fun i _ => c.bs.length - (intOf i).toNat)
      case atStart => exact ⟨0, _, Nat.zero_le _, rfl, HM0⟩
      case round =>
        obtain ⟨k, u, hkl, rfl, HM⟩ := hrel
        clear HM0
        by_cases hlt : k < c.bs.length
        · obtain ⟨adb, A12, c12, eb, q0, q1, q2, q3, q4, q5, q6, q7, q8, q9, q10, q11, q12, _, _⟩ := at_T46 CF.out.bs (k : Int) (by omega) (by omega)
          obtain rfl : vB = some adb := eb
          rw [br_rd] at q0 q1 q2 q3 q4 q5 q6 q7 q8 q9 q10 q11 q12
          rw [Int.toNat_natCast] at q0 q1 q2 q3 q4 q5 q6 q7 q8 q9 q10 q11 q12
          replace q0 := pw_cell_below HM.out.below q0
          replace q1 := pw_cell_below HM.out.below q1
          replace q2 := pw_cell_below HM.out.below q2
          replace q3 := pw_cell_below HM.out.below q3
          replace q4 := pw_cell_below HM.out.below q4
          replace q5 := pw_cell_below HM.out.below q5
          replace q6 := pw_cell_below HM.out.below q6
          replace q7 := pw_cell_below HM.out.below q7
          replace q8 := pw_cell_below HM.out.below q8
          replace q9 := pw_cell_below HM.out.below q9
          replace q10 := pw_cell_below HM.out.below q10
          replace q11 := pw_cell_below HM.out.below q11
          replace q12 := pw_cell_below HM.out.below q12
          have HWB := Aside0.mk (WF.out _ (br_mem (bs := c.bs) (i := (k : Int)) (by omega) (by omega)))
          have HWK := Aside0.mk (show waysK c.bs (k + 1) = (stepOf (br c.bs k), (k : Int)) :: dropK (waysK c.bs k) (stepOf (br c.bs k)) from rfl)
          have HT := Aside0.mk (show c.bs.take (k + 1) = c.bs.take k ++ [br c.bs k] by rw [(getD_br hlt).2]; unfold br; rw [Int.toNat_natCast])
          obtain ⟨hdm0, hdm1⟩ := HTR.out.dom (k : Int) (by omega) (by omega)
          have hup : -1 ≤ (br c.bs k).f4 ∧ (br c.bs k).f4 ≤ 500 := by rcases HTR.out.up (k : Int) (by omega) (by omega) with h | h <;> omega
          generalize br c.bs k = b at *
          have d4 : decide (k < c.bs.length) = true := decide_eq_true hlt
          go_wp2
          clear q0 q1 q2 q3 q4 q5 q6 q7 q8 q9 q10 q11 q12
          have HM1 := Aside0.mk (HM.out.alloc (.cells (cellsN b) 46))
          have HX0 := Aside0.mk (blk_new wr (.cells (cellsN b) 46))
          unfold cellsN at HM1 HX0
          generalize hW1 : wr.alloc (.cells #[.string b.f0, .string b.f1, .bool b.f2, .int .i64 b.f3, .int .i64 b.f4, .bool b.f5, .string b.f6.f0, .int .i64 b.f6.f1, .int .i64 b.f6.f2, .float .f64 b.f6.f3, .bool b.f6.f4, .bool b.f6.f5, .slice none 0 0] 46) = W1 at *
          have hne : some wr.heap.size ≠ u.ownBlock := by
            have h1 := Kd.R_elderB HM.out.rowL wr.heap.size (Nat.le_refl _)
            intro e1
            exact (h1.1 _ e1.symm).2 rfl
          have HNE := Aside0.mk hne
          generalize hxb : wr.heap.size = xb at *
          have HM2 := Aside0.mk HM1.out.drew
          have HX2 := Aside0.mk (show W1.drew.heap[xb]? = some (.cells (cellsN b) 46 (0, 0)) from HX0.out)
          have HMK := Aside0.mk (k46_mkM W1.drew w.heap.size (fun _ => False) (noKids b) (v12 := .slice none 0 0) (Kd.R_nil _ _ _ _ _))
          have R1 := Aside0.mk HM2.out.rowL
          have R2 := Aside0.mk HM2.out.below
          have R3 := Aside0.mk HM2.out.below.size
          have HL := Aside0.mk (show (((c.bs.take k).map noKids).length + 1) * 136 ≤ 140737488355328 by rw [List.length_map, List.length_take]; omega)
          obtain ⟨xs, hxs⟩ : ∃ xs, xs = (c.bs.take k).map noKids := ⟨_, rfl⟩
          rw [← hxs] at R1 HL
          have HXS := Aside0.mk hxs
          clear hxs HM1 HX0 hne hW1 hxb
          refine start_ (n := 11) (S := fun w' => w'.cell? ⟨q + 1 + 1, 0, none⟩ = some u ∧ w'.heap[xb]? = some (.cells (cellsN b) 46 (0, 0))) (ds := [10]) #[false, false, false, false, false, false, false, false, false, false, false] (by kernel_rfl) rfl rfl (⟨(blk_cell HM2.out.hd 0).trans rfl, HX2.out⟩) (fun hHeld => ?_)
          generalize W1.drew = W2 at *
          refine pure_ (i := 0) (N := (some 54)) (v := ?_) (a' := ?_) #[true, false, false, false, false, false, false, false, false, false, false] rfl rfl (by kernel_rfl) (fun _ _ _ h => h) (Or.inl ⟨by rfl, ?_⟩) ?_ ?_
          rotate_left
          · intro w'
            go_simp
            try with_reducible rfl
          rotate_left
          · simp only [Act.put, List.setIfInBounds_toArray, List.set_cons_zero, List.set_cons_succ, i64_w, i32_w]
            rfl
          refine pure_ (i := 1) (N := (some 55)) (v := ?_) (a' := ?_) #[true, true, false, false, false, false, false, false, false, false, false] rfl rfl (by kernel_rfl) (fun _ _ _ h => h) (Or.inl ⟨by rfl, ?_⟩) ?_ ?_
          rotate_left
          · intro w'
            go_simp
            try with_reducible rfl
          rotate_left
          · simp only [Act.put, List.setIfInBounds_toArray, List.set_cons_zero, List.set_cons_succ, i64_w, i32_w]
            rfl
          refine pure_ (i := 2) (N := (some 56)) (v := ?_) (a' := ?_) #[true, true, true, false, false, false, false, false, false, false, false] rfl rfl (by kernel_rfl) (fun _ _ _ h => h) (Or.inl ⟨by rfl, ?_⟩) ?_ ?_
          rotate_left
          · intro w'
            go_simp
            try with_reducible rfl
          rotate_left
          · simp only [Act.put, List.setIfInBounds_toArray, List.set_cons_zero, List.set_cons_succ, i64_w, i32_w]
            rfl
          refine pure_ (i := 3) (N := (some 57)) (v := ?_) (a' := ?_) #[true, true, true, true, false, false, false, false, false, false, false] rfl rfl (by kernel_rfl) (fun _ _ _ h => h) (Or.inl ⟨by rfl, ?_⟩) ?_ ?_
          rotate_left
          · intro w'
            go_simp
            try with_reducible rfl
          rotate_left
          · simp only [Act.put, List.setIfInBounds_toArray, List.set_cons_zero, List.set_cons_succ, i64_w, i32_w]
            rfl
          refine take_ (i := 4) (N := (some 58)) (v := ?_) (a' := ?_) #[true, true, true, true, true, false, false, false, false, false, false] rfl rfl (by kernel_rfl) (fun _ _ _ h => h) (Or.inl ⟨by rfl, ?_⟩) hHeld ?_ ?_
          rotate_left
          · intro w' s0
            obtain ⟨s0, s1⟩ := s0
            obtain ⟨x0, x1, x2, x3, x4, x5, x6, x7, x8, x9, x10, x11, x12⟩ := cellsN_at s1
            go_simp
            try with_reducible rfl
          rotate_left
          · simp only [Act.put, List.setIfInBounds_toArray, List.set_cons_zero, List.set_cons_succ, i64_w, i32_w]
            rfl
          refine take_ (i := 5) (N := (some 59)) (v := ?_) (a' := ?_) #[true, true, true, true, true, true, false, false, false, false, false] rfl rfl (by kernel_rfl) (fun _ _ _ h => h) (Or.inl ⟨by rfl, ?_⟩) hHeld ?_ ?_
          rotate_left
          · intro w' s0
            obtain ⟨s0, s1⟩ := s0
            obtain ⟨x0, x1, x2, x3, x4, x5, x6, x7, x8, x9, x10, x11, x12⟩ := cellsN_at s1
            go_simp
            try with_reducible rfl
          rotate_left
          · simp only [Act.put, List.setIfInBounds_toArray, List.set_cons_zero, List.set_cons_succ, i64_w, i32_w]
            rfl
          refine one_ (i := 6) (N := (some 60)) #[true, true, true, true, true, true, true, false, false, false, false] rfl rfl (by kernel_rfl) (by decide) (fun K hK => ?_)
          refine value_ (w1 := ?_) (v := ?_) (by rfl) rfl ?_ ?_
          rotate_left 2
          · go_simp
            constructor
            · rfl
            · rfl
          refine hK.out _ _ ⟨pw_cell_below (below_alloc (Below.refl _ _) _) hHeld.1, (Below.heap_alloc _ _ _ (blk_lt hHeld.2)).trans hHeld.2⟩ (fun hHeld => ?_)
          clear hK K
          refine norm_ (a' := ?_) ?_ ?_
          rotate_left
          · show Act.put _ (some 60) _ = _
            simp only [Act.put, List.setIfInBounds_toArray, List.set_cons_zero, List.set_cons_succ, i64_w, i32_w]
            rfl
          refine one_ (i := 7) (N := (some 61)) #[true, true, true, true, true, true, true, true, false, false, false] rfl rfl (by kernel_rfl) (by decide) (fun K hK => ?_)
          refine Kd.R_append_step kB (w0 := w) w.heap.size (by rfl) (.tmp 58) (.tmp 60) 25 46 (.agg #[(.string ⟨#[]⟩), (.string ⟨#[]⟩), (.bool false), (.int .i64 0), (.int .i64 0), (.bool false), (.string ⟨#[]⟩), (.int .i64 0), (.int .i64 0), (.float .f64 0), (.bool false), (.bool false), (.slice none 0 0)]) 136 rfl Try.underlying25 info46 rfl (by decide) (by omega) u xs (noKids b) [.string b.f0, .string b.f1, .bool b.f2, .int .i64 b.f3, .int .i64 b.f4, .bool b.f5, .string b.f6.f0, .int .i64 b.f6.f1, .int .i64 b.f6.f2, .float .f64 b.f6.f3, .bool b.f6.f4, .bool b.f6.f5, .slice none 0 0] (fun _ => True) (fun _ => False) rfl rfl HMK.out (fun _ hk => hk.elim) (fun _ _ => trivial) R1.out R2.out R3.out HL.out ?_
          intro v1 w1 hr1 hb1 hg1 hat1
          obtain ⟨Av, cv, hv1⟩ := Kd.R_slice hr1
          obtain ⟨n1, hn1⟩ : ∃ n, n = (xs ++ [noKids b]).length := ⟨_, rfl⟩
          rw [← hn1] at hv1
          subst hv1
          have hh1 := (hg1.block _ (blk_lt HM2.out.hd) (Kd.R_ne HM2.out.rowL HM2.out.hd (by decide))).trans HM2.out.hd
          have hx1 := (hg1.block _ (blk_lt HX2.out) (HNE.out)).trans HX2.out
          have f1 := blk_frozen hh1 0
          have f2 : w1.cell? ⟨q + 1 + 1, 0, none⟩ = some u := (blk_cell hh1 0).trans rfl
          have HNN := Aside0.mk hn1
          have HR1 := Aside0.mk hr1
          have HB1 := Aside0.mk hb1
          have HG1 := Aside0.mk hg1
          have HX1 := Aside0.mk hx1
          clear hr1 hb1 hg1 hat1 hn1 hh1
          refine hK.out _ _ ⟨f2, hx1⟩ (fun hHeld => ?_)
          clear hx1
          clear hK K
          refine norm_ (a' := ?_) ?_ ?_
          rotate_left
          · show Act.put _ (some 61) _ = _
            simp only [Act.put, List.setIfInBounds_toArray, List.set_cons_zero, List.set_cons_succ, i64_w, i32_w]
            rfl
          refine pure_ (i := 8) (N := (some 62)) (v := ?_) (a' := ?_) #[true, true, true, true, true, true, true, true, true, false, false] rfl rfl (by kernel_rfl) (fun _ _ _ h => h) (Or.inl ⟨by rfl, ?_⟩) ?_ ?_
          rotate_left
          · intro w'
            go_simp
            try with_reducible rfl
          rotate_left
          · simp only [Act.put, List.setIfInBounds_toArray, List.set_cons_zero, List.set_cons_succ, i64_w, i32_w]
            rfl
          refine pure_ (i := 9) (N := (some 63)) (v := ?_) (a' := ?_) #[true, true, true, true, true, true, true, true, true, true, false] rfl rfl (by kernel_rfl) (fun _ _ _ h => h) (Or.inl ⟨by rfl, ?_⟩) ?_ ?_
          rotate_left
          · intro w'
            go_simp
            try with_reducible rfl
          rotate_left
          · simp only [Act.put, List.setIfInBounds_toArray, List.set_cons_zero, List.set_cons_succ, i64_w, i32_w]
            rfl
          refine last_ (i := 10) (N := none) #[true, true, true, true, true, true, true, true, true, true, true] rfl rfl (by kernel_rfl) (by decide) (fun K hK => ?_)
          refine skip_ (w1 := ?_) (by rfl) rfl ?_ ?_
          rotate_left
          · go_simp
            rfl
          refine hK.out _ _ ?_
          clear hK K
          refine done_ (by kernel_rfl) ?_
          have hr1 := HR1.out
          rw [HXS.out, show (c.bs.take k).map noKids ++ [noKids b] = (c.bs.take (k + 1)).map noKids by rw [HT.out, List.map_append]; rfl] at hr1
          have HM3 := Aside0.mk (HM2.out.pushed HG1.out HB1.out hr1)
          have HX3 := Aside0.mk (show (w1.setCell ⟨q + 1 + 1, 0, none⟩ (.slice Av n1 cv)).heap[xb]? = some (.cells (cellsN b) 46 (0, 0)) from
            (Below.heap_setCell _ _ _ _ (blk_ne HX2.out HM2.out.hd (by decide))).trans HX1.out)
          clear hr1 f1 f2 hHeld
          generalize w1.setCell ⟨q + 1 + 1, 0, none⟩ (.slice Av n1 cv) = W3 at *
          obtain ⟨x0, x1, x2, x3, x4, x5, x6, x7, x8, x9, x10, x11, x12⟩ := cellsN_at HX3.out
          clear x0 x1 x2 x5 x6 x7 x8 x9 x10 x11 x12 HR1 HB1 HG1 HX1
          by_cases hneg : b.f4 < 0
          · have d5 : decide (b.f4 < 0) = true := decide_eq_true hneg
            obtain ⟨fr, hfr⟩ : ∃ fr, fr = -1 - b.f3 := ⟨_, rfl⟩
            have HFR := Aside0.mk (show stepOf b = ⟨fr, b.f0, b.f1, b.f2⟩ by unfold stepOf; rw [if_pos hneg, hfr])
            have hf0 : -17 ≤ fr ∧ fr ≤ 500 := by omega
            have HTOP := Aside0.mk (fun W => top_any b.f3 (by omega) (by omega) W)
            rw [← hfr] at HTOP
            clear hfr
            go_wp2_with fail
            (with_reducible refine (HTOP.out _).mono ?_); rintro e w5 ⟨rfl, ⟨nd, hw5⟩⟩
            have HM4' := Aside0.mk (show N2h w w5 _ _ _ _ _ _ _ _ _ from by rw [hw5]; exact HM3.out.drewN nd)
            have HX4' := Aside0.mk (show w5.heap[xb]? = some (.cells (cellsN b) 46 (0, 0)) from by rw [hw5]; exact HX3.out)
            clear hw5 x3 x4 HM3 HX3
            generalize hW4 : w5 = W4 at *
            have HM4 := Aside0.mk HM4'.out.drew
            have HX4 := Aside0.mk (show W4.drew.heap[xb]? = some (.cells (cellsN b) 46 (0, 0)) from HX4'.out)
            clear hW4
            go_wp2
            refine start_ (n := 14) (S := fun w' => w'.cell? ⟨q + 1 + 1, 3, none⟩ = some (.map (some (q + 1))) ∧ w'.heap[xb]? = some (.cells (cellsN b) 46 (0, 0))) (ds := [13]) #[false, false, false, false, false, false, false, false, false, false, false, false, false, false] (by kernel_rfl) rfl rfl (⟨(blk_cell HM4.out.hd 3).trans rfl, HX4.out⟩) (fun hHeld => ?_)
            have HM5 := HM4
            clear HM4 HX4
            generalize W4.drew = W5 at *
            refine pure_ (i := 0) (N := (some 71)) (v := ?_) (a' := ?_) #[true, false, false, false, false, false, false, false, false, false, false, false, false, false] rfl rfl (by kernel_rfl) (fun _ _ _ h => h) (Or.inl ⟨by rfl, ?_⟩) ?_ ?_
            rotate_left
            · intro w'
              go_simp
              try with_reducible rfl
            rotate_left
            · simp only [Act.put, List.setIfInBounds_toArray, List.set_cons_zero, List.set_cons_succ, i64_w, i32_w]
              rfl
            refine pure_ (i := 1) (N := (some 72)) (v := ?_) (a' := ?_) #[true, true, false, false, false, false, false, false, false, false, false, false, false, false] rfl rfl (by kernel_rfl) (fun _ _ _ h => h) (Or.inl ⟨by rfl, ?_⟩) ?_ ?_
            rotate_left
            · intro w'
              go_simp
              try with_reducible rfl
            rotate_left
            · simp only [Act.put, List.setIfInBounds_toArray, List.set_cons_zero, List.set_cons_succ, i64_w, i32_w]
              rfl
            refine pure_ (i := 2) (N := (some 73)) (v := ?_) (a' := ?_) #[true, true, true, false, false, false, false, false, false, false, false, false, false, false] rfl rfl (by kernel_rfl) (fun _ _ _ h => h) (Or.inl ⟨by rfl, ?_⟩) ?_ ?_
            rotate_left
            · intro w'
              go_simp
              try with_reducible rfl
            rotate_left
            · simp only [Act.put, List.setIfInBounds_toArray, List.set_cons_zero, List.set_cons_succ, i64_w, i32_w]
              rfl
            refine pure_ (i := 4) (N := (some 75)) (v := ?_) (a' := ?_) #[true, true, true, false, true, false, false, false, false, false, false, false, false, false] rfl rfl (by kernel_rfl) (fun _ _ _ h => h) (Or.inl ⟨by rfl, ?_⟩) ?_ ?_
            rotate_left
            · intro w'
              go_simp
              try with_reducible rfl
            rotate_left
            · simp only [Act.put, List.setIfInBounds_toArray, List.set_cons_zero, List.set_cons_succ, i64_w, i32_w]
              rfl
            refine pure_ (i := 5) (N := (some 76)) (v := ?_) (a' := ?_) #[true, true, true, false, true, true, false, false, false, false, false, false, false, false] rfl rfl (by kernel_rfl) (fun _ _ _ h => h) (Or.inl ⟨by rfl, ?_⟩) ?_ ?_
            rotate_left
            · intro w'
              go_simp
              try with_reducible rfl
            rotate_left
            · simp only [Act.put, List.setIfInBounds_toArray, List.set_cons_zero, List.set_cons_succ, i64_w, i32_w]
              rfl
            refine pure_ (i := 7) (N := (some 78)) (v := ?_) (a' := ?_) #[true, true, true, false, true, true, false, true, false, false, false, false, false, false] rfl rfl (by kernel_rfl) (fun _ _ _ h => h) (Or.inl ⟨by rfl, ?_⟩) ?_ ?_
            rotate_left
            · intro w'
              go_simp
              try with_reducible rfl
            rotate_left
            · simp only [Act.put, List.setIfInBounds_toArray, List.set_cons_zero, List.set_cons_succ, i64_w, i32_w]
              rfl
            refine pure_ (i := 9) (N := (some 80)) (v := ?_) (a' := ?_) #[true, true, true, false, true, true, false, true, false, true, false, false, false, false] rfl rfl (by kernel_rfl) (fun _ _ _ h => h) (Or.inl ⟨by rfl, ?_⟩) ?_ ?_
            rotate_left
            · intro w'
              go_simp
              try with_reducible rfl
            rotate_left
            · simp only [Act.put, List.setIfInBounds_toArray, List.set_cons_zero, List.set_cons_succ, i64_w, i32_w]
              rfl
            refine pure_ (i := 12) (N := (some 83)) (v := ?_) (a' := ?_) #[true, true, true, false, true, true, false, true, false, true, false, false, true, false] rfl rfl (by kernel_rfl) (fun _ _ _ h => h) (Or.inl ⟨by rfl, ?_⟩) ?_ ?_
            rotate_left
            · intro w'
              go_simp
              try with_reducible rfl
            rotate_left
            · simp only [Act.put, List.setIfInBounds_toArray, List.set_cons_zero, List.set_cons_succ, i64_w, i32_w]
              rfl
            refine take_ (i := 3) (N := (some 74)) (v := ?_) (a' := ?_) #[true, true, true, true, true, true, false, true, false, true, false, false, true, false] rfl rfl (by kernel_rfl) (fun _ _ _ h => h) (Or.inl ⟨by rfl, ?_⟩) hHeld ?_ ?_
            rotate_left
            · intro w' s0
              obtain ⟨s0, s1⟩ := s0
              obtain ⟨x0, x1, x2, x3, x4, x5, x6, x7, x8, x9, x10, x11, x12⟩ := cellsN_at s1
              go_simp
              try with_reducible rfl
            rotate_left
            · simp only [Act.put, List.setIfInBounds_toArray, List.set_cons_zero, List.set_cons_succ, i64_w, i32_w]
              rfl
            refine take_ (i := 6) (N := (some 77)) (v := ?_) (a' := ?_) #[true, true, true, true, true, true, true, true, false, true, false, false, true, false] rfl rfl (by kernel_rfl) (fun _ _ _ h => h) (Or.inl ⟨by rfl, ?_⟩) hHeld ?_ ?_
            rotate_left
            · intro w' s0
              obtain ⟨s0, s1⟩ := s0
              obtain ⟨x0, x1, x2, x3, x4, x5, x6, x7, x8, x9, x10, x11, x12⟩ := cellsN_at s1
              go_simp
              try with_reducible rfl
            rotate_left
            · simp only [Act.put, List.setIfInBounds_toArray, List.set_cons_zero, List.set_cons_succ, i64_w, i32_w]
              rfl
            refine take_ (i := 8) (N := (some 79)) (v := ?_) (a' := ?_) #[true, true, true, true, true, true, true, true, true, true, false, false, true, false] rfl rfl (by kernel_rfl) (fun _ _ _ h => h) (Or.inl ⟨by rfl, ?_⟩) hHeld ?_ ?_
            rotate_left
            · intro w' s0
              obtain ⟨s0, s1⟩ := s0
              obtain ⟨x0, x1, x2, x3, x4, x5, x6, x7, x8, x9, x10, x11, x12⟩ := cellsN_at s1
              go_simp
              try with_reducible rfl
            rotate_left
            · simp only [Act.put, List.setIfInBounds_toArray, List.set_cons_zero, List.set_cons_succ, i64_w, i32_w]
              rfl
            refine take_ (i := 10) (N := (some 81)) (v := ?_) (a' := ?_) #[true, true, true, true, true, true, true, true, true, true, true, false, true, false] rfl rfl (by kernel_rfl) (fun _ _ _ h => h) (Or.inl ⟨by rfl, ?_⟩) hHeld ?_ ?_
            rotate_left
            · intro w' s0
              obtain ⟨s0, s1⟩ := s0
              obtain ⟨x0, x1, x2, x3, x4, x5, x6, x7, x8, x9, x10, x11, x12⟩ := cellsN_at s1
              go_simp
              try with_reducible rfl
            rotate_left
            · simp only [Act.put, List.setIfInBounds_toArray, List.set_cons_zero, List.set_cons_succ, i64_w, i32_w]
              rfl
            refine pure_ (i := 11) (N := (some 82)) (v := ?_) (a' := ?_) #[true, true, true, true, true, true, true, true, true, true, true, true, true, false] rfl rfl (by kernel_rfl) (fun _ _ _ h => h) (Or.inl ⟨by rfl, ?_⟩) ?_ ?_
            rotate_left
            · intro w'
              go_simp
              try with_reducible rfl
            rotate_left
            · simp only [Act.put, List.setIfInBounds_toArray, List.set_cons_zero, List.set_cons_succ, i64_w, i32_w]
              rfl
            refine last_ (i := 13) (N := none) #[true, true, true, true, true, true, true, true, true, true, true, true, true, true] rfl rfl (by kernel_rfl) (by decide) (fun K hK => ?_)
            have hl5 := waysK_len c.bs k
            obtain ⟨w6, hrun, hm6, hgr⟩ := putWI HM5.out.ways (by unfold maxLen; omega) (s := ⟨fr, b.f0, b.f1, b.f2⟩) (goodS (by omega) (by omega) HWB.out.s0 HWB.out.s1) (k : Int)
            have hrun2 : (Instr.mapUpdate 68 (.map (some (q + 1))) (.agg #[.int .i64 fr, .string b.f0, .string b.f1, .bool b.f2]) (.int .i64 (k : Int))).run Try.prog W5 = .ok () w6 := hrun
            rw [← HFR.out, ← HWK.out] at hm6
            have HM6 := Aside0.mk (HM5.out.next hm6 hgr HM.out.lp HM.out.lt HM.out.ne)
            clear hm6 hgr hl5 hrun
            refine skip_ (w1 := w6) (by rfl) rfl ?_ ?_
            · go_simp
            refine hK.out _ _ ?_
            clear hK K
            refine done_ (by kernel_rfl) ?_
            go_wp2
            go_roundw
            case rel => exact ⟨k + 1, _, by omega, by go_num, HM6⟩
            case measure => simp [intOf]; omega
          · have d5 : decide (b.f4 < 0) = false := decide_eq_false hneg
            obtain ⟨fr, hfr⟩ : ∃ fr, fr = b.f4 := ⟨_, rfl⟩
            have HFR := Aside0.mk (show stepOf b = ⟨fr, b.f0, b.f1, b.f2⟩ by unfold stepOf; rw [if_neg hneg, hfr])
            have hf0 : -17 ≤ fr ∧ fr ≤ 500 := by omega
            rw [← hfr] at x4 d5
            have HM4 := Aside0.mk HM3.out.drew
            have HX4 := Aside0.mk (show W3.drew.heap[xb]? = some (.cells (cellsN b) 46 (0, 0)) from HX3.out)
            have HFE := Aside0.mk hfr
            clear x3 hfr
            go_wp2
            clear x4

            generalize hW4 : W3 = W4 at *
            clear hW4
            refine start_ (n := 14) (S := fun w' => w'.cell? ⟨q + 1 + 1, 3, none⟩ = some (.map (some (q + 1))) ∧ w'.heap[xb]? = some (.cells (cellsN b) 46 (0, 0))) (ds := [13]) #[false, false, false, false, false, false, false, false, false, false, false, false, false, false] (by kernel_rfl) rfl rfl (⟨(blk_cell HM4.out.hd 3).trans rfl, HX4.out⟩) (fun hHeld => ?_)
            have HM5 := HM4
            clear HM4 HX4
            generalize W4.drew = W5 at *
            refine pure_ (i := 0) (N := (some 71)) (v := ?_) (a' := ?_) #[true, false, false, false, false, false, false, false, false, false, false, false, false, false] rfl rfl (by kernel_rfl) (fun _ _ _ h => h) (Or.inl ⟨by rfl, ?_⟩) ?_ ?_
            rotate_left
            · intro w'
              go_simp
              try with_reducible rfl
            rotate_left
            · simp only [Act.put, List.setIfInBounds_toArray, List.set_cons_zero, List.set_cons_succ, i64_w, i32_w]
              rfl
            refine pure_ (i := 1) (N := (some 72)) (v := ?_) (a' := ?_) #[true, true, false, false, false, false, false, false, false, false, false, false, false, false] rfl rfl (by kernel_rfl) (fun _ _ _ h => h) (Or.inl ⟨by rfl, ?_⟩) ?_ ?_
            rotate_left
            · intro w'
              go_simp
              try with_reducible rfl
            rotate_left
            · simp only [Act.put, List.setIfInBounds_toArray, List.set_cons_zero, List.set_cons_succ, i64_w, i32_w]
              rfl
            refine pure_ (i := 2) (N := (some 73)) (v := ?_) (a' := ?_) #[true, true, true, false, false, false, false, false, false, false, false, false, false, false] rfl rfl (by kernel_rfl) (fun _ _ _ h => h) (Or.inl ⟨by rfl, ?_⟩) ?_ ?_
            rotate_left
            · intro w'
              go_simp
              try with_reducible rfl
            rotate_left
            · simp only [Act.put, List.setIfInBounds_toArray, List.set_cons_zero, List.set_cons_succ, i64_w, i32_w]
              rfl
            refine pure_ (i := 4) (N := (some 75)) (v := ?_) (a' := ?_) #[true, true, true, false, true, false, false, false, false, false, false, false, false, false] rfl rfl (by kernel_rfl) (fun _ _ _ h => h) (Or.inl ⟨by rfl, ?_⟩) ?_ ?_
            rotate_left
            · intro w'
              go_simp
              try with_reducible rfl
            rotate_left
            · simp only [Act.put, List.setIfInBounds_toArray, List.set_cons_zero, List.set_cons_succ, i64_w, i32_w]
              rfl
            refine pure_ (i := 5) (N := (some 76)) (v := ?_) (a' := ?_) #[true, true, true, false, true, true, false, false, false, false, false, false, false, false] rfl rfl (by kernel_rfl) (fun _ _ _ h => h) (Or.inl ⟨by rfl, ?_⟩) ?_ ?_
            rotate_left
            · intro w'
              go_simp
              try with_reducible rfl
            rotate_left
            · simp only [Act.put, List.setIfInBounds_toArray, List.set_cons_zero, List.set_cons_succ, i64_w, i32_w]
              rfl
            refine pure_ (i := 7) (N := (some 78)) (v := ?_) (a' := ?_) #[true, true, true, false, true, true, false, true, false, false, false, false, false, false] rfl rfl (by kernel_rfl) (fun _ _ _ h => h) (Or.inl ⟨by rfl, ?_⟩) ?_ ?_
            rotate_left
            · intro w'
              go_simp
              try with_reducible rfl
            rotate_left
            · simp only [Act.put, List.setIfInBounds_toArray, List.set_cons_zero, List.set_cons_succ, i64_w, i32_w]
              rfl
            refine pure_ (i := 9) (N := (some 80)) (v := ?_) (a' := ?_) #[true, true, true, false, true, true, false, true, false, true, false, false, false, false] rfl rfl (by kernel_rfl) (fun _ _ _ h => h) (Or.inl ⟨by rfl, ?_⟩) ?_ ?_
            rotate_left
            · intro w'
              go_simp
              try with_reducible rfl
            rotate_left
            · simp only [Act.put, List.setIfInBounds_toArray, List.set_cons_zero, List.set_cons_succ, i64_w, i32_w]
              rfl
            refine pure_ (i := 12) (N := (some 83)) (v := ?_) (a' := ?_) #[true, true, true, false, true, true, false, true, false, true, false, false, true, false] rfl rfl (by kernel_rfl) (fun _ _ _ h => h) (Or.inl ⟨by rfl, ?_⟩) ?_ ?_
            rotate_left
            · intro w'
              go_simp
              try with_reducible rfl
            rotate_left
            · simp only [Act.put, List.setIfInBounds_toArray, List.set_cons_zero, List.set_cons_succ, i64_w, i32_w]
              rfl
            refine take_ (i := 3) (N := (some 74)) (v := ?_) (a' := ?_) #[true, true, true, true, true, true, false, true, false, true, false, false, true, false] rfl rfl (by kernel_rfl) (fun _ _ _ h => h) (Or.inl ⟨by rfl, ?_⟩) hHeld ?_ ?_
            rotate_left
            · intro w' s0
              obtain ⟨s0, s1⟩ := s0
              obtain ⟨x0, x1, x2, x3, x4, x5, x6, x7, x8, x9, x10, x11, x12⟩ := cellsN_at s1
              go_simp
              try with_reducible rfl
            rotate_left
            · simp only [Act.put, List.setIfInBounds_toArray, List.set_cons_zero, List.set_cons_succ, i64_w, i32_w]
              rfl
            refine take_ (i := 6) (N := (some 77)) (v := ?_) (a' := ?_) #[true, true, true, true, true, true, true, true, false, true, false, false, true, false] rfl rfl (by kernel_rfl) (fun _ _ _ h => h) (Or.inl ⟨by rfl, ?_⟩) hHeld ?_ ?_
            rotate_left
            · intro w' s0
              obtain ⟨s0, s1⟩ := s0
              obtain ⟨x0, x1, x2, x3, x4, x5, x6, x7, x8, x9, x10, x11, x12⟩ := cellsN_at s1
              go_simp
              try with_reducible rfl
            rotate_left
            · simp only [Act.put, List.setIfInBounds_toArray, List.set_cons_zero, List.set_cons_succ, i64_w, i32_w]
              rfl
            refine take_ (i := 8) (N := (some 79)) (v := ?_) (a' := ?_) #[true, true, true, true, true, true, true, true, true, true, false, false, true, false] rfl rfl (by kernel_rfl) (fun _ _ _ h => h) (Or.inl ⟨by rfl, ?_⟩) hHeld ?_ ?_
            rotate_left
            · intro w' s0
              obtain ⟨s0, s1⟩ := s0
              obtain ⟨x0, x1, x2, x3, x4, x5, x6, x7, x8, x9, x10, x11, x12⟩ := cellsN_at s1
              go_simp
              try with_reducible rfl
            rotate_left
            · simp only [Act.put, List.setIfInBounds_toArray, List.set_cons_zero, List.set_cons_succ, i64_w, i32_w]
              rfl
            refine take_ (i := 10) (N := (some 81)) (v := ?_) (a' := ?_) #[true, true, true, true, true, true, true, true, true, true, true, false, true, false] rfl rfl (by kernel_rfl) (fun _ _ _ h => h) (Or.inl ⟨by rfl, ?_⟩) hHeld ?_ ?_
            rotate_left
            · intro w' s0
              obtain ⟨s0, s1⟩ := s0
              obtain ⟨x0, x1, x2, x3, x4, x5, x6, x7, x8, x9, x10, x11, x12⟩ := cellsN_at s1
              go_simp
              try with_reducible rfl
            rotate_left
            · simp only [Act.put, List.setIfInBounds_toArray, List.set_cons_zero, List.set_cons_succ, i64_w, i32_w]
              rfl
            refine pure_ (i := 11) (N := (some 82)) (v := ?_) (a' := ?_) #[true, true, true, true, true, true, true, true, true, true, true, true, true, false] rfl rfl (by kernel_rfl) (fun _ _ _ h => h) (Or.inl ⟨by rfl, ?_⟩) ?_ ?_
            rotate_left
            · intro w'
              go_simp
              try with_reducible rfl
            rotate_left
            · simp only [Act.put, List.setIfInBounds_toArray, List.set_cons_zero, List.set_cons_succ, i64_w, i32_w]
              rfl
            refine last_ (i := 13) (N := none) #[true, true, true, true, true, true, true, true, true, true, true, true, true, true] rfl rfl (by kernel_rfl) (by decide) (fun K hK => ?_)
            have hl5 := waysK_len c.bs k
            obtain ⟨w6, hrun, hm6, hgr⟩ := putWI HM5.out.ways (by unfold maxLen; omega) (s := ⟨fr, b.f0, b.f1, b.f2⟩) (goodS (by omega) (by omega) HWB.out.s0 HWB.out.s1) (k : Int)
            have hrun2 : (Instr.mapUpdate 68 (.map (some (q + 1))) (.agg #[.int .i64 fr, .string b.f0, .string b.f1, .bool b.f2]) (.int .i64 (k : Int))).run Try.prog W5 = .ok () w6 := hrun
            rw [← HFR.out, ← HWK.out] at hm6
            have HM6 := Aside0.mk (HM5.out.next hm6 hgr HM.out.lp HM.out.lt HM.out.ne)
            clear hm6 hgr hl5 hrun
            refine skip_ (w1 := w6) (by rfl) rfl ?_ ?_
            · go_simp
            refine hK.out _ _ ?_
            clear hK K
            refine done_ (by kernel_rfl) ?_
            go_wp2
            go_roundw
            case rel => exact ⟨k + 1, _, by omega, by go_num, HM6⟩
            case measure => simp [intOf]; omega
        · obtain rfl : k = c.bs.length := by omega
          go_wp2
          go_ret2
          have hm := HM.out
          obtain ⟨LA, lc, rfl⟩ := Kd.R_slice hm.rowL
          obtain ⟨NA, nc, rfl⟩ := Kd.R_slice hm.rowN
          have e1 : ((c.bs.take c.bs.length).map noKids).length = c.bs.length := by rw [List.length_map, List.take_length]
          have e2 : (c.ds.map (·.f0)).length = c.ds.length := by rw [List.length_map]
          have hl := (Kd.R_reads' hm.rowL).2.2
          have hn := (Kd.R_reads' hm.rowN).2.2
          have hhd := hm.hd
          rw [e1] at hl hhd
          rw [e2] at hn hhd
          rw [List.take_length] at hl
          exact ⟨⟨q + 1 + 1, LA, lc, NA, nc, q, q + 1⟩, rfl, ⟨hhd, hl, hn, hm.tops, hm.ways, hm.lp⟩, hm.below⟩
end Go.Proofs.Ytipbigdpannlcaa.Tr
