/- What the law TrieFits uses, thinned: printed by shake2.py. -/
import Derived.Test.YtipbigdpannlcaaTTrieFitsOTF
namespace Go.Proofs.Ytipbigdpannlcaa.Tr
open Go.RowKit Go.Proofs.Ytipbigdpannlcaa.PTrieFits Go.Proofs.Ytipbigdpannlcaa.Pure Go.Proofs.YtipbigdpannlcaaW.PrintWords Go.Proofs.YtipbigdpannlcaaW.PrintLast Go.Proofs.YtipbigdpannlcaaW.PrintMore
open Go.Proofs.Ytipbigdpannlcaa
open Flt
set_option maxRecDepth 100000
set_option linter.unusedVariables false
set_option linter.unusedSectionVars false
abbrev RUL := S44
def nx (L : List Int) (p n : Int) : Int × Int := (turncockmake_Tape_Next.f L p n).getD (0, p)
def ofB (L : List Int) (p : Int) (l : List ByteArray) : ByteArray × Int := (turncockmake_Tape_Of.f L p l).getD (⟨#[]⟩, p)
def ruB (L : List Int) (p : Int) : RUL × Int := match turncockmake_Rule.f 301 L p with | some (a, b, c, d, e, f, g) => (⟨a, b, c, d, e, f⟩, g) | none => (⟨⟨#[]⟩, 0, 0, 0, false, false⟩, p)
structure TS (L : List Int) (p : Int) : Prop where
  lo : 0 ≤ p
  hi : p ≤ L.length
theorem wrap_small {x : Int} (h0 : -1000000000 ≤ x) (h1 : x ≤ 1000000000) : wrap64 x = x := by
  unfold wrap64; rw [Int.emod_eq_of_lt] <;> omega
theorem round_f (v n : Int) (h0 : 0 < n) (h1 : n ≤ 1000) : ∃ r, turncockmake_Round.f v n = some r ∧ 0 ≤ r ∧ r < n := by
  unfold turncockmake_Round.f
  rw [if_neg (by omega)]
  have a := Int.tmod_lt_of_pos v h0
  have b : -n < Int.tmod v n := by
    rcases Int.le_total 0 v with h | h
    · have := Int.tmod_nonneg n h; omega
    · have := Int.tmod_lt_of_pos (-v) h0
      rw [Int.neg_tmod] at this; omega
  by_cases h : Int.tmod v n < 0
  · rw [if_pos h, wrap_small (by omega) (by omega)]; exact ⟨_, rfl, by omega, by omega⟩
  · rw [if_neg h]; exact ⟨_, rfl, by omega, by omega⟩
section
variable {L : List Int} (hL : L.length ≤ 1000000)
include hL
theorem nx_f {p n : Int} (hp : TS L p) (h0 : 0 < n) (h1 : n ≤ 1000) : turncockmake_Tape_Next.f L p n = some (nx L p n) ∧ 0 ≤ (nx L p n).1 ∧ (nx L p n).1 < n ∧ TS L (nx L p n).2 := by
  have : ∃ a q, turncockmake_Tape_Next.f L p n = some (a, q) ∧ 0 ≤ a ∧ a < n ∧ TS L q := by
    unfold turncockmake_Tape_Next.f
    have := hp.lo; have := hp.hi
    by_cases h : p ≥ L.length
    · rw [if_pos h]; exact ⟨0, p, rfl, by omega, by omega, hp⟩
    · rw [if_neg h, wrap_small (x := p + 1) (by omega) (by omega), wrap_small (x := p + 1 - 1) (by omega) (by omega), if_pos (by omega), if_pos (by omega)]
      obtain ⟨r, e, ra, rb⟩ := round_f (rd L (p + 1 - 1)) n h0 h1
      rw [e]
      exact ⟨r, p + 1, rfl, ra, rb, by omega, by omega⟩
  obtain ⟨a, q, e, x, y, z⟩ := this
  have : nx L p n = (a, q) := by unfold nx; rw [e]; rfl
  rw [this]; exact ⟨e, x, y, z⟩
theorem getD_mem_B {l : List ByteArray} {i : Int} (h0 : 0 ≤ i) (h1 : i < l.length) (d : ByteArray) : rdOf d l i ∈ l := by
  unfold rdOf
  rw [List.getD_eq_getElem?_getD, List.getElem?_eq_getElem (by omega)]
  exact List.getElem_mem _
theorem of_f {p : Int} {l : List ByteArray} (hp : TS L p) (h0 : 0 < l.length) (h1 : l.length ≤ 1000) : turncockmake_Tape_Of.f L p l = some (ofB L p l) ∧ (ofB L p l).1 ∈ l ∧ TS L (ofB L p l).2 := by
  obtain ⟨e, a, b, c⟩ := nx_f hL hp (n := l.length) (by omega) (by omega)
  have : turncockmake_Tape_Of.f L p l = some (rdOf ByteArray.empty l (nx L p l.length).1, (nx L p l.length).2) := by
    unfold turncockmake_Tape_Of.f
    rw [e, Option.bind_some, if_pos a, if_pos b]
  have k : ofB L p l = (rdOf ByteArray.empty l (nx L p l.length).1, (nx L p l.length).2) := by unfold ofB; rw [this]; rfl
  rw [k]
  exact ⟨this, getD_mem_B hL a b _, c⟩
end
def limsL : List Int := [3, 10, 1, 5, 0, 100, 4294967295]
def nearsL : List ByteArray := [⟨#[48, 46, 56]⟩, ⟨#[48, 46, 53]⟩, ⟨#[48]⟩, ⟨#[49]⟩, ⟨#[48, 46, 51, 51, 51, 51, 51, 51]⟩, ⟨#[48, 46, 48, 48, 48, 48, 48, 49]⟩]
def nmsL : List ByteArray := [⟨#[111, 110, 101]⟩, ⟨#[97, 124, 98]⟩, ⟨#[120]⟩]
def nearV (s : ByteArray) : Nat := ((turncockref1_Read.f 300 s).getD (0, false)).1
theorem near_ok : (nearsL.all fun s => (turncockref1_Read.f 300 s).isSome && decide (nearV s < 18446744073709551616) && (writeV (nearV s)).2 && decide (0 ≤ rank (nearV s)) && decide (rank (nearV s) ≤ 4607182418800017408)) = true := by decide +kernel
theorem nms_ok : ((⟨#[]⟩ :: nmsL).all fun s => nameOk s && decide (s.size ≤ 3)) = true := by decide +kernel
theorem lims_ok : (limsL.all fun l => decide (0 ≤ l) && decide (l ≤ 4294967295)) = true := by decide
theorem near_f {s : ByteArray} (h : s ∈ nearsL) : ∃ b, turncockref1_Read.f 300 s = some (nearV s, b) ∧ nearV s < 18446744073709551616 ∧ (writeV (nearV s)).2 = true ∧ 0 ≤ rank (nearV s) ∧ rank (nearV s) ≤ 4607182418800017408 := by
  have := List.all_eq_true.1 near_ok s h
  simp only [Bool.and_eq_true, decide_eq_true_eq] at this
  obtain ⟨⟨⟨⟨a, b⟩, c⟩, d⟩, e⟩ := this
  obtain ⟨x, hx⟩ := Option.isSome_iff_exists.1 a
  refine ⟨x.2, ?_, b, c, d, e⟩
  rw [hx]; unfold nearV; rw [hx]; rfl
structure RuOk (r : RUL) : Prop where
  ck : checkV r.f0 r.f1 r.f2 r.f3 r.f5 = true
  s0 : r.f0.size ≤ 3
  x3 : r.f3 < 18446744073709551616
theorem sec_ok (u : Int) (h0 : 1 ≤ u) (h1 : u ≤ 4) : 0 < sec u := by
  have : u = 1 ∨ u = 2 ∨ u = 3 ∨ u = 4 := by omega
  rcases this with rfl | rfl | rfl | rfl <;> decide
theorem rd_mem {l : List Int} {i : Int} (h0 : 0 ≤ i) (h1 : i < l.length) : rd l i ∈ l := by
  unfold rd
  rw [List.getD_eq_getElem?_getD, List.getElem?_eq_getElem (by omega)]
  exact List.getElem_mem _
section
variable {L : List Int} (hL : L.length ≤ 1000000)
include hL
theorem ruj {p : Int} (hp : TS L p) {s : ByteArray} (hs : s ∈ (⟨#[]⟩ : ByteArray) :: nmsL) (sh : Bool) : ∃ r : RUL, ∃ q, turncockmake_Rule.j0 301 L p s 0 0 0 sh false = some (r.f0, r.f1, r.f2, r.f3, r.f4, r.f5, q) ∧ RuOk r ∧ TS L q := by
  have hn := List.all_eq_true.1 nms_ok s hs
  simp only [Bool.and_eq_true, decide_eq_true_eq] at hn
  obtain ⟨e0, a0, b0, t0⟩ := nx_f hL hp (n := 8) (by omega) (by omega)
  rw [show (301 : Nat) = 300 + 1 from rfl, turncockmake_Rule.j0, e0, Option.bind_some]
  by_cases h : (nx L p 8).1 = 0
  · rw [if_pos h]
    refine ⟨⟨s, 0, 0, 0, sh, true⟩, _, rfl, ⟨?_, hn.2, by show (0 : Nat) < _; decide⟩, t0⟩
    show checkV s 0 0 0 true = true
    unfold checkV; rw [hn.1, rank_0]; rfl
  · rw [if_neg h]
    obtain ⟨e1, a1, b1, t1⟩ := nx_f hL t0 (n := 4) (by omega) (by omega)
    rw [e1, Option.bind_some, Option.bind_some]
    obtain ⟨e2, a2, b2, t2⟩ := nx_f hL t1 (n := 7) (by omega) (by omega)
    rw [e2, Option.bind_some, if_pos a2]
    have b2' : (nx L (nx L (nx L p 8).2 4).2 7).1 < (limsL.length : Int) := b2
    rw [if_pos (show (nx L (nx L (nx L p 8).2 4).2 7).1 < ((([3, 10, 1, 5, 0, 100, 4294967295] : List Int).length : Nat) : Int) from b2')]
    obtain ⟨e3, a3, t3⟩ := of_f hL t2 (l := nearsL) (by decide) (by decide)
    obtain ⟨b, e4, x4, y4, z4, w4⟩ := near_f a3
    have e3' := e3
    rw [show nearsL = [⟨#[48, 46, 56]⟩, ⟨#[48, 46, 53]⟩, ⟨#[48]⟩, ⟨#[49]⟩, ⟨#[48, 46, 51, 51, 51, 51, 51, 51]⟩, ⟨#[48, 46, 48, 48, 48, 48, 48, 49]⟩] from rfl] at e3'
    rw [e3', Option.bind_some]
    have e4' := e4
    rw [show nearsL = [⟨#[48, 46, 56]⟩, ⟨#[48, 46, 53]⟩, ⟨#[48]⟩, ⟨#[49]⟩, ⟨#[48, 46, 51, 51, 51, 51, 51, 51]⟩, ⟨#[48, 46, 48, 48, 48, 48, 48, 49]⟩] from rfl] at e4'
    rw [e4', Option.bind_some]
    have hm := List.all_eq_true.1 lims_ok _ (rd_mem a2 b2')
    simp only [Bool.and_eq_true, decide_eq_true_eq] at hm
    refine ⟨⟨s, _, _, _, sh, false⟩, _, rfl, ⟨?_, hn.2, x4⟩, t3⟩
    show checkV s (wrap64 (1 + (nx L (nx L p 8).2 4).1)) (rd limsL _) (nearV (ofB L (nx L (nx L (nx L p 8).2 4).2 7).2 nearsL).1) false = true
    rw [wrap_small (by omega) (by omega)]
    unfold checkV
    rw [hn.1, if_neg (by decide), decide_eq_true (sec_ok _ (by omega) (by omega)), decide_eq_true hm.1, decide_eq_true hm.2, y4, decide_eq_true z4, decide_eq_true w4]
    rfl
theorem ru_f {p : Int} (hp : TS L p) : turncockmake_Rule.f 301 L p = some ((ruB L p).1.f0, (ruB L p).1.f1, (ruB L p).1.f2, (ruB L p).1.f3, (ruB L p).1.f4, (ruB L p).1.f5, (ruB L p).2) ∧ RuOk (ruB L p).1 ∧ TS L (ruB L p).2 := by
  have : ∃ r : RUL, ∃ q, turncockmake_Rule.f 301 L p = some (r.f0, r.f1, r.f2, r.f3, r.f4, r.f5, q) ∧ RuOk r ∧ TS L q := by
    unfold turncockmake_Rule.f
    obtain ⟨e0, a0, b0, t0⟩ := nx_f hL hp (n := 6) (by omega) (by omega)
    rw [e0, Option.bind_some]
    obtain ⟨e1, a1, b1, t1⟩ := nx_f hL t0 (n := 8) (by omega) (by omega)
    rw [e1, Option.bind_some]
    by_cases h : (nx L (nx L p 6).2 8).1 = 0
    · rw [if_pos h]
      obtain ⟨e2, a2, t2⟩ := of_f hL t1 (l := nmsL) (by decide) (by decide)
      have e2' := e2
      rw [show nmsL = [⟨#[111, 110, 101]⟩, ⟨#[97, 124, 98]⟩, ⟨#[120]⟩] from rfl] at e2'
      rw [e2', Option.bind_some]
      exact ruj hL t2 (List.mem_cons_of_mem _ a2) _
    · rw [if_neg h]
      exact ruj hL t1 List.mem_cons_self _
  obtain ⟨r, q, e, x, y⟩ := this
  have k : ruB L p = (r, q) := by unfold ruB; rw [e]
  rw [k]; exact ⟨e, x, y⟩
end
end Go.Proofs.Ytipbigdpannlcaa.Tr
