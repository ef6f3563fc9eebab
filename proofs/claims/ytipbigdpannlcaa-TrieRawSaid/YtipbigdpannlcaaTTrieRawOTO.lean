/- What the law TrieRaw uses, thinned: printed by shake2.py. -/
import Derived.Test.YtipbigdpannlcaaTTrieRawOTX
import Derived.Deep.Slices
import Derived.Deep.Strs
import Derived.Deep.Fields
import Derived.ChangeSame
import Derived.OpenShut
import Derived.ShutString
import Derived.Lib.SmallJoins
namespace Go.Proofs.Ytipbigdpannlcaa.Tr
open Go.ChangeShapes Go.WideShapes Go.ChangeAt Go.RowKit Go.Deep Go.Joins
open Go.Proofs.YtipbigdpannlcaaW.PrintWords Go.Proofs.YtipbigdpannlcaaW.PrintLast Go.Proofs.Ytipbigdpannlcaa.PTrieFits
set_option maxRecDepth 100000
set_option linter.unusedVariables false
theorem bits_f {x : Nat} (h : (Lit.float .f64 x).wf = true) : x < 18446744073709551616 := by
  simpa [Lit.wf] using h
theorem trod_float64 {H : Type} {enc : TypeId × Value → H} {P : Program} {w : World} {base : Nat} {spare : Nat → Bool} {held : Bool} {t : TypeId} {fuel : Nat} {c : Value} {x : DataW H × List MemPlace} (ht : P.underlying t = some (.float .f64)) (h : DataW.trod enc P w base spare held fuel t [c] = some x) : ∃ b, [c] = [.float .f64 b] ∧ (Lit.float .f64 b).wf = true := by
  cases fuel with
  | zero => simp [DataW.trod] at h
  | succ n =>
    unfold DataW.trod at h
    rw [ht] at h
    split at h <;> simp_all
theorem open_ints_cell {H : Type} {enc : TypeId × Value → H} {W : World} {n : Nat} {cell : Value} {y : DataW H × List MemPlace} (h : DataW.trod enc Try.prog W 0 (fun _ => true) true n 22 [cell] = some y) :
    ∃ (A : Option Addr) (c : Nat) (l : List Int), cell = .slice A l.length c ∧ kI.C W A l.length l ∧ l.length ≤ c := by
  rcases open_slice1 Try.underlying22 (by kernel_rfl) h with ⟨hcs, _⟩ | ⟨a, len, cap, m, n2, V, D, Pl, hcs, _, hl, hm, hmm, _, hi⟩
  · obtain rfl : cell = .slice none 0 0 := by simpa using hcs
    exact ⟨none, 0, [], rfl, Kd.C_nil _ _, Nat.le_refl _⟩
  · obtain rfl : cell = .slice (some a) len cap := by simpa using hcs
    simp only [if_true] at hmm
    subst hmm
    have hex : ∀ i : Nat, ∃ x : Int, i < m → W.cell? (a.add i) = some (.int .i64 x) := by
      intro i
      by_cases him : i < m
      · obtain ⟨hc, ht⟩ := hi i him
        obtain ⟨s0, e0, _, _⟩ := DataW.trod_int Try.underlying3 ht
        have e1 : V i = .int .i64 s0 := by simpa using e0
        exact ⟨s0, fun _ => by rw [hc, e1]⟩
      · exact ⟨0, fun h => absurd h him⟩
    obtain ⟨Sx, hgx⟩ := Classical.axiomOfChoice hex
    refine ⟨some a, m, (List.range len).map Sx, by simp, ?_, by simpa using hl⟩
    refine ⟨rfl, by simp; unfold maxLen at hm; omega, fun _ => ⟨a, rfl, fun j p hp => ?_⟩⟩
    have hj : j < len := by have := (List.getElem?_eq_some_iff.1 hp).1; simpa using this
    obtain rfl : Sx j = p := by simpa [hj] using hp
    refine ⟨[.int .i64 (Sx j)], rfl, rfl, fun i u hu => ?_⟩
    match i, hu with
    | 0, hu =>
      simp at hu; subst hu
      have e1 : j * kI.sz + 0 = j := by show j * 1 + 0 = j; omega
      rw [e1]
      exact hgx j (by omega)
    | i + 1, hu => simp at hu
theorem open_rule_cells {H : Type} {enc : TypeId × Value → H} {W : World} {n : Nat} {c0 c1 c2 c3 c4 c5 : Value} {y : DataW H × List MemPlace} (h : DataW.trod enc Try.prog W 0 (fun _ => true) true n 44 [c0, c1, c2, c3, c4, c5] = some y) :
    ∃ r : S44, c0 = .string r.f0 ∧ c1 = .int .i64 r.f1 ∧ c2 = .int .i64 r.f2 ∧ c3 = .float .f64 r.f3 ∧ c4 = .bool r.f4 ∧ c5 = .bool r.f5 ∧ r.f0.size ≤ maxLen ∧ (Lit.float .f64 r.f3).wf = true := by
  obtain ⟨xs, n2, _, hx, _, hlen, hg⟩ := DataW.trod_struct Try.underlying44 h
  have h0 := hg 0 _ rfl
  have h1 := hg 1 _ rfl
  have h2 := hg 2 _ rfl
  have h3 := hg 3 _ rfl
  have h4 := hg 4 _ rfl
  have h5 := hg 5 _ rfl
  match xs, hlen with
  | [y0, y1, y2, y3, y4, y5], _ =>
    have g0 : DataW.trod enc Try.prog W 0 (fun _ => true) true n2 9 [c0] = some y0 := h0
    obtain ⟨x0, e0, _, w0⟩ := DataW.trod_string Try.underlying9 g0
    obtain rfl : c0 = .string x0 := by simpa using e0
    have g1 : DataW.trod enc Try.prog W 0 (fun _ => true) true n2 3 [c1] = some y1 := h1
    obtain ⟨x1, e1, _, w1⟩ := DataW.trod_int Try.underlying3 g1
    obtain rfl : c1 = .int .i64 x1 := by simpa using e1
    have g2 : DataW.trod enc Try.prog W 0 (fun _ => true) true n2 3 [c2] = some y2 := h2
    obtain ⟨x2, e2, _, w2⟩ := DataW.trod_int Try.underlying3 g2
    obtain rfl : c2 = .int .i64 x2 := by simpa using e2
    have g3 : DataW.trod enc Try.prog W 0 (fun _ => true) true n2 42 [c3] = some y3 := h3
    obtain ⟨x3, e3, w3⟩ := trod_float64 Try.underlying42 g3
    obtain rfl : c3 = .float .f64 x3 := by simpa using e3
    have g4 : DataW.trod enc Try.prog W 0 (fun _ => true) true n2 4 [c4] = some y4 := h4
    obtain ⟨x4, e4, _⟩ := DataW.trod_bool Try.underlying4 g4
    obtain rfl : c4 = .bool x4 := by simpa using e4
    have g5 : DataW.trod enc Try.prog W 0 (fun _ => true) true n2 4 [c5] = some y5 := h5
    obtain ⟨x5, e5, _⟩ := DataW.trod_bool Try.underlying4 g5
    obtain rfl : c5 = .bool x5 := by simpa using e5
    exact ⟨⟨x0, x1, x2, x3, x4, x5⟩, rfl, rfl, rfl, rfl, rfl, rfl, w0, w3⟩
theorem open_branch_cells {H : Type} {enc : TypeId × Value → H} {W : World} {n : Nat} {cs : List Value} (hl : cs.length = 13) {y : DataW H × List MemPlace} (h : DataW.trod enc Try.prog W 0 (fun _ => true) true n 46 cs = some y) :
    ∃ (b : BR) (A : Option Addr) (c : Nat), cs = (cellsB b A c).toList ∧ kI.C W A b.f7.length b.f7 ∧ b.f7.length ≤ c ∧ WfB b := by
  obtain ⟨xs, n2, _, hx, _, hlen, hg⟩ := DataW.trod_struct Try.underlying46 h
  have h0 := hg 0 _ rfl
  have h1 := hg 1 _ rfl
  have h2 := hg 2 _ rfl
  have h3 := hg 3 _ rfl
  have h4 := hg 4 _ rfl
  have h5 := hg 5 _ rfl
  have h6 := hg 6 _ rfl
  have h7 := hg 7 _ rfl
  match cs, hl, xs, hlen with
  | [c0, c1, c2, c3, c4, c5, c6, c7, c8, c9, c10, c11, c12], _, [y0, y1, y2, y3, y4, y5, y6, y7], _ =>
    have g0 : DataW.trod enc Try.prog W 0 (fun _ => true) true n2 9 [c0] = some y0 := h0
    obtain ⟨x0, e0, _, w0⟩ := DataW.trod_string Try.underlying9 g0
    obtain rfl : c0 = .string x0 := by simpa using e0
    have g1 : DataW.trod enc Try.prog W 0 (fun _ => true) true n2 9 [c1] = some y1 := h1
    obtain ⟨x1, e1, _, w1⟩ := DataW.trod_string Try.underlying9 g1
    obtain rfl : c1 = .string x1 := by simpa using e1
    have g2 : DataW.trod enc Try.prog W 0 (fun _ => true) true n2 4 [c2] = some y2 := h2
    obtain ⟨x2, e2, _⟩ := DataW.trod_bool Try.underlying4 g2
    obtain rfl : c2 = .bool x2 := by simpa using e2
    have g3 : DataW.trod enc Try.prog W 0 (fun _ => true) true n2 3 [c3] = some y3 := h3
    obtain ⟨x3, e3, _, w3⟩ := DataW.trod_int Try.underlying3 g3
    obtain rfl : c3 = .int .i64 x3 := by simpa using e3
    have g4 : DataW.trod enc Try.prog W 0 (fun _ => true) true n2 3 [c4] = some y4 := h4
    obtain ⟨x4, e4, _, w4⟩ := DataW.trod_int Try.underlying3 g4
    obtain rfl : c4 = .int .i64 x4 := by simpa using e4
    have g5 : DataW.trod enc Try.prog W 0 (fun _ => true) true n2 4 [c5] = some y5 := h5
    obtain ⟨x5, e5, _⟩ := DataW.trod_bool Try.underlying4 g5
    obtain rfl : c5 = .bool x5 := by simpa using e5
    have g6 : DataW.trod enc Try.prog W 0 (fun _ => true) true n2 44 [c6, c7, c8, c9, c10, c11] = some y6 := h6
    obtain ⟨r, rfl, rfl, rfl, rfl, rfl, rfl, r1, r2⟩ := open_rule_cells g6
    have g7 : DataW.trod enc Try.prog W 0 (fun _ => true) true n2 22 [c12] = some y7 := h7
    obtain ⟨A, c, l, rfl, k1, k2⟩ := open_ints_cell g7
    exact ⟨⟨x0, x1, x2, x3, x4, x5, r, l⟩, A, c, rfl, k1, k2, ⟨by have := w0; unfold maxLen at this; omega, by have := w1; unfold maxLen at this; omega, by have := r1; unfold maxLen at this; omega, bits_f r2⟩⟩
theorem open_domain_cells {H : Type} {enc : TypeId × Value → H} {W : World} {n : Nat} {cs : List Value} (hl : cs.length = 2) {y : DataW H × List MemPlace} (h : DataW.trod enc Try.prog W 0 (fun _ => true) true n 53 cs = some y) :
    ∃ (b : DO) (A : Option Addr) (c : Nat), cs = [.string b.f0, .slice A b.f1.length c] ∧ kI.C W A b.f1.length b.f1 ∧ b.f1.length ≤ c ∧ WfD b := by
  obtain ⟨xs, n2, _, hx, _, hlen, hg⟩ := DataW.trod_struct Try.underlying53 h
  have h0 := hg 0 _ rfl
  have h1 := hg 1 _ rfl
  match cs, hl, xs, hlen with
  | [c0, c1], _, [y0, y1], _ =>
    have g0 : DataW.trod enc Try.prog W 0 (fun _ => true) true n2 9 [c0] = some y0 := h0
    obtain ⟨x0, e0, _, w0⟩ := DataW.trod_string Try.underlying9 g0
    obtain rfl : c0 = .string x0 := by simpa using e0
    have g1 : DataW.trod enc Try.prog W 0 (fun _ => true) true n2 22 [c1] = some y1 := h1
    obtain ⟨A, c, l, rfl, k1, k2⟩ := open_ints_cell g1
    exact ⟨⟨x0, l⟩, A, c, rfl, k1, k2, w0⟩
theorem open_branchs_cell {H : Type} {enc : TypeId × Value → H} {W : World} {n : Nat} {cell : Value} {y : DataW H × List MemPlace} (h : DataW.trod enc Try.prog W 0 (fun _ => true) true n 25 [cell] = some y) :
    ∃ (A : Option Addr) (c : Nat) (l : List BR), cell = .slice A l.length c ∧ kB.C W A l.length l ∧ l.length ≤ c ∧ ∀ x ∈ l, WfB x := by
  rcases open_slice Try.underlying25 h with ⟨hcs, _⟩ | ⟨a, len, cap, m, n2, D, Pl, hcs, hb, hl, hm, hmm, hx, hi⟩
  · obtain rfl : cell = .slice none 0 0 := by simpa using hcs
    exact ⟨none, 0, [], rfl, Kd.C_nil _ _, Nat.le_refl _, fun x hx => by cases hx⟩
  · obtain rfl : cell = .slice (some a) len cap := by simpa using hcs
    simp only [if_true] at hmm
    subst hmm
    have hC : Try.prog.cellsOf 46 = 13 := by kernel_rfl
    have hex : ∀ i : Nat, ∃ (q : BR × Option Addr × Nat), i < m → (∀ j u, ((cellsB q.1 q.2.1 q.2.2).toList)[j]? = some u → W.cell? (a.add (i * 13 + j)) = some u) ∧ kI.C W q.2.1 q.1.f7.length q.1.f7 ∧ q.1.f7.length ≤ q.2.2 ∧ WfB q.1 := by
      intro i
      by_cases him : i < m
      · obtain ⟨cs', hc, ht'⟩ := hi i him
        rw [hC] at hc
        obtain ⟨_, hcl, hat⟩ := World.cells?_some hc
        obtain ⟨b, A, c, e, k1, k2, k3⟩ := open_branch_cells hcl ht'
        refine ⟨(b, A, c), fun _ => ⟨fun j u hu => ?_, k1, k2, k3⟩⟩
        have hj : j < 13 := by have := (List.getElem?_eq_some_iff.1 hu).1; simpa [cellsB] using this
        have h1 := hat j hj
        rw [← Go.Deep.add_add, h1]
        rw [← hu, e]
      · exact ⟨(zB, none, 0), fun h => absurd h him⟩
    obtain ⟨g, hgx⟩ := Classical.axiomOfChoice hex
    refine ⟨some a, m, (List.range len).map (fun i => (g i).1), by simp, ?_, by simpa using hl, ?_⟩
    · refine ⟨rfl, by simp; unfold maxLen at hm; omega, fun _ => ⟨a, rfl, fun j p hp => ?_⟩⟩
      have hj : j < len := by have := (List.getElem?_eq_some_iff.1 hp).1; simpa using this
      obtain rfl : (g j).1 = p := by simpa [hj] using hp
      obtain ⟨e1, e2, e3, e4⟩ := hgx j (by omega)
      exact ⟨(cellsB (g j).1 (g j).2.1 (g j).2.2).toList, rfl, k46_mk W (g j).1 e3 e2, e1⟩
    · intro x hx
      obtain ⟨j, hj, rfl⟩ := List.mem_map.1 hx
      have hj : j < len := by simpa using hj
      exact (hgx j (by omega)).2.2.2
theorem open_domains_cell {H : Type} {enc : TypeId × Value → H} {W : World} {n : Nat} {cell : Value} {y : DataW H × List MemPlace} (h : DataW.trod enc Try.prog W 0 (fun _ => true) true n 24 [cell] = some y) :
    ∃ (A : Option Addr) (c : Nat) (l : List DO), cell = .slice A l.length c ∧ kD.C W A l.length l ∧ l.length ≤ c ∧ ∀ x ∈ l, WfD x := by
  rcases open_slice Try.underlying24 h with ⟨hcs, _⟩ | ⟨a, len, cap, m, n2, D, Pl, hcs, hb, hl, hm, hmm, hx, hi⟩
  · obtain rfl : cell = .slice none 0 0 := by simpa using hcs
    exact ⟨none, 0, [], rfl, Kd.C_nil _ _, Nat.le_refl _, fun x hx => by cases hx⟩
  · obtain rfl : cell = .slice (some a) len cap := by simpa using hcs
    simp only [if_true] at hmm
    subst hmm
    have hC : Try.prog.cellsOf 53 = 2 := by kernel_rfl
    have hex : ∀ i : Nat, ∃ (q : DO × Option Addr × Nat), i < m → (∀ j u, ([.string q.1.f0, .slice q.2.1 q.1.f1.length q.2.2])[j]? = some u → W.cell? (a.add (i * 2 + j)) = some u) ∧ kI.C W q.2.1 q.1.f1.length q.1.f1 ∧ q.1.f1.length ≤ q.2.2 ∧ WfD q.1 := by
      intro i
      by_cases him : i < m
      · obtain ⟨cs', hc, ht'⟩ := hi i him
        rw [hC] at hc
        obtain ⟨_, hcl, hat⟩ := World.cells?_some hc
        obtain ⟨b, A, c, e, k1, k2, k3⟩ := open_domain_cells hcl ht'
        refine ⟨(b, A, c), fun _ => ⟨fun j u hu => ?_, k1, k2, k3⟩⟩
        have hj : j < 2 := by have := (List.getElem?_eq_some_iff.1 hu).1; simpa using this
        have h1 := hat j hj
        rw [← Go.Deep.add_add, h1]
        rw [← hu, e]
      · exact ⟨(zD, none, 0), fun h => absurd h him⟩
    obtain ⟨g, hgx⟩ := Classical.axiomOfChoice hex
    refine ⟨some a, m, (List.range len).map (fun i => (g i).1), by simp, ?_, by simpa using hl, ?_⟩
    · refine ⟨rfl, by simp; unfold maxLen at hm; omega, fun _ => ⟨a, rfl, fun j p hp => ?_⟩⟩
      have hj : j < len := by have := (List.getElem?_eq_some_iff.1 hp).1; simpa using this
      obtain rfl : (g j).1 = p := by simpa [hj] using hp
      obtain ⟨e1, e2, e3, e4⟩ := hgx j (by omega)
      exact ⟨[.string (g j).1.f0, .slice (g j).2.1 (g j).1.f1.length (g j).2.2], rfl, k53_mk W (g j).1 e3 e2, e1⟩
    · intro x hx
      obtain ⟨j, hj, rfl⟩ := List.mem_map.1 hx
      have hj : j < len := by simpa using hj
      exact (hgx j (by omega)).2.2.2
theorem open_config {H : Type} {enc : TypeId × Value → H} {v : Value} {d : DataW H} {p : List MemPlace} {W : World} {b0 : Nat} (hv : Value.okWide Try.prog W .any b0 27 v) (h : DataW.Trod enc Try.prog W 0 (fun _ => true) true 27 v d p) :
    ∃ (x : CfV) (c : Cfg), v = x.val c ∧ CfC W x c ∧ (∀ b ∈ c.bs, WfB b) ∧ (∀ d ∈ c.ds, WfD d) ∧ ∀ x ∈ p, x.block < W.heap.size := by
  have hlt : ∀ x ∈ p, x.block < W.heap.size := by obtain ⟨m, hm⟩ := h; exact DataW.trod_lt m _ _ _ hm
  obtain ⟨cs, rfl, hsz⟩ := okWide_struct Try.underlying27 hv
  obtain ⟨fuel, hf⟩ := h
  obtain ⟨xs, n, _, hx, _, hlen, hg⟩ := DataW.trod_struct Try.underlying27 hf
  have h0 := hg 0 _ rfl
  have h1 := hg 1 _ rfl
  obtain ⟨l0⟩ := cs
  match l0, hsz.trans (show Try.prog.cellsOf 27 = 2 by kernel_rfl) with
  | [c0, c1], _ =>
    match xs, hlen with
    | [y0, y1], _ =>
      have g0 : DataW.trod enc Try.prog W 0 (fun _ => true) true n 24 [c0] = some y0 := h0
      obtain ⟨A, c, ds, rfl, k1, k2, k3⟩ := open_domains_cell g0
      have g1 : DataW.trod enc Try.prog W 0 (fun _ => true) true n 25 [c1] = some y1 := h1
      obtain ⟨B, e, bs, rfl, j1, j2, j3⟩ := open_branchs_cell g1
      exact ⟨⟨A, c, B, e⟩, ⟨ds, bs⟩, rfl, ⟨k1, j1, k2, j2⟩, j3, k3, hlt⟩
end Go.Proofs.Ytipbigdpannlcaa.Tr
