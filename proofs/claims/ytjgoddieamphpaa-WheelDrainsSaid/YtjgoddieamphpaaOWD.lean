/- A part of the proof. -/
import Derived.Test.YtjgoddieamphpaaOWC
namespace Go.Proofs.Ytjgoddieamphpaa.Wh
open Go.RowKit Go.Sort Go.Proofs.YtjgoddieamphpaaW.PrintWords Go.Proofs.YtjgoddieamphpaaW.PrintLast Heap Go.Proofs.Ytjgoddieamphpaa.Obj
set_option maxRecDepth 100000
set_option linter.unusedVariables false
/-- A state of a step down. -/
structure DS (w0 w : World) (p : Nat) (u v : Value) (n i0 i : Nat) (b : Bool) (xs ys : List It) : Prop where
  h : HS w0 w p u v xs ys
  dn : Dn z0 lessI n ys i b
  lo : i0 ≤ i
  lt : decide (i0 < i) = b
  tl : ∀ k, n ≤ k → el z0 ys k = el z0 xs k
theorem DS.stop {w0 w : World} {p n i0 i : Nat} {u v : Value} {b : Bool} {xs ys : List It} (h : DS w0 w p u v n i0 i b xs ys) (hs : ∀ c, 0 < c → c < n → par c = i → le lessI (el z0 ys i) (el z0 ys c)) : (b = true → Ok z0 lessI n ys) ∧ (b = false → Up z0 lessI n ys i0) := by
  refine ⟨fun e => ?_, fun e => ?_⟩
  · subst e; exact h.dn.stop hs
  · have : i = i0 := by have h1 := h.lt; rw [e] at h1; have := of_decide_eq_false h1; have := h.lo; omega
    subst this; exact h.dn.stop_up hs
theorem DS.step {w0 w w1 : World} {p n i0 i j : Nat} {u v : Value} {b : Bool} {xs ys : List It} (h : DS w0 w p u v n i0 i b xs ys) (hn : n ≤ xs.length) (k : HS w0 w1 p u v xs (Heap.swap z0 ys i j)) (hL : Least z0 lessI n ys i j) (hl : lessI (el z0 ys j) (el z0 ys i) = true) : DS w0 w1 p u v n i0 j true xs (Heap.swap z0 ys i j) := by
  have h1 := hL.1
  have h2 := hL.2.1
  have h3 : i < j := by have := par_lt h1; have := hL.2.2.1; omega
  have hlen := h.h.len
  refine ⟨k, h.dn.step lessI_wo (by omega) hL hl, by have := h.lo; omega, decide_eq_true (by have := h.lo; omega), fun q hq => ?_⟩
  rw [el_swap ys i j q (by omega) (by omega), if_neg (by omega), if_neg (by omega)]
  exact h.tl q hq
set_option maxHeartbeats 2000000 in
theorem down_any {w : World} {p n : Nat} {u v : Value} {xs : List It} (h : WR w p u v xs) (hn : n ≤ xs.length) (i0 : Nat) (hi : i0 < n) (hd : Dn z0 lessI n xs i0 false) :
    Calls Try.prog 88 #[.iface 113 (.pointer (some ⟨p, 0, none⟩)), .int .i64 (i0 : Int), .int .i64 (n : Int)] w fun e w' => ∃ b ys, e = .returned (.bool b) ∧ HS w w' p u v xs ys ∧ (∀ k, n ≤ k → el z0 ys k = el z0 xs k) ∧ (b = true → Ok z0 lessI n ys) ∧ (b = false → Up z0 lessI n ys i0) := by
  have hfew := h.few
  have HP := Aside0.mk (show DS w w p u v n i0 i0 false xs xs from ⟨⟨h, List.Perm.refl _, Frm.refl _ w⟩, hd, Nat.le_refl _, by simp, fun _ _ => rfl⟩)
  clear h hd
  go_enter Try.func88, Try.ntmps88
  go_wp2
  go_loopw [7] (fun v7 wr => ∃ (i : Nat) (b : Bool) (ys : List It), v7 = .int .i64 (i : Nat) ∧ i < n ∧ Aside0 (DS w wr p u v n i0 i b xs ys)) (fun v7 _ => n - (intOf v7).toNat)
  case atStart => exact ⟨i0, false, xs, rfl, hi, HP⟩
  case round =>
    clear HP hi
    obtain ⟨i, b, ys, rfl, hi, HP⟩ := hrel
    have z1 : decide ((i0 : Int) < (i : Int)) = b := by rw [← HP.out.lt]; by_cases q : i0 < i; rw [decide_eq_true q, decide_eq_true (by omega)]; rw [decide_eq_false q, decide_eq_false (by omega)]
    have z2 : decide (i0 < i) = b := HP.out.lt
    have w1 : IntKind.i64.wrap (2 * (i : Int)) = 2 * (i : Int) := by rw [IntKind.wrap_i64]; omega
    have z3 : decide (2 * (i : Int) + 1 < 0) = false := decide_eq_false (by omega)
    have z4 : decide (((2 * i + 1 : Nat) : Int) < 0) = false := decide_eq_false (by omega)
    by_cases hA : n ≤ 2 * i + 1
    · have a1 : decide ((n : Int) ≤ 2 * (i : Int) + 1) = true := decide_eq_true (by omega)
      go_wp2
      go_ret
      exact ⟨b, ys, by first | rfl | simp, HP.out.h, HP.out.tl, HP.out.stop (no_child hA)⟩
    have a1 : decide ((n : Int) ≤ 2 * (i : Int) + 1) = false := decide_eq_false (by omega)
    have c0 := HP.out.h.r.c0
    have q1 : ((2 * i + 1 : Nat) : Int) = 2 * (i : Int) + 1 := by simp
    have q2 : ((2 * i + 2 : Nat) : Int) = 2 * (i : Int) + 1 + 1 := by simp; omega
    by_cases hB : 2 * i + 2 < n
    · have a2 : decide (2 * (i : Int) + 1 + 1 < (n : Int)) = true := decide_eq_true (by omega)
      have hm := meth_less p v _ c0
      cases hl : lessI (el z0 ys (2 * i + 2)) (el z0 ys (2 * i + 1)) with
      | true =>
        have HLs := Aside0.mk (Least.right lessI_wo hB hl)
        have HL := Lib.hid hl
        clear hl
        go_wp2_with fail
        (with_reducible refine (show Calls Try.prog 134 #[v, .int .i64 (2 * (i : Int) + 1 + 1), .int .i64 (2 * (i : Int) + 1)] _ _ from q1 ▸ q2 ▸ HP.out.h.less (2 * i + 2) (2 * i + 1) (by omega) (by omega) true HL.out).mono ?_); rintro e w2 ⟨rfl, hs2, c2⟩
        have HP2 := Aside0.mk (show DS w w2 p u v n i0 i b xs ys from ⟨hs2, HP.out.dn, HP.out.lo, HP.out.lt, HP.out.tl⟩)
        clear hs2 hm
        have hm3 := meth_less p v _ c2
        cases hl3 : lessI (el z0 ys (2 * i + 2)) (el z0 ys i) with
        | false =>
          have HL3 := Lib.hid hl3
          clear hl3
          go_wp2_with fail
          (with_reducible refine (show Calls Try.prog 134 #[v, .int .i64 (2 * (i : Int) + 1 + 1), .int .i64 (i : Int)] _ _ from q2 ▸ HP2.out.h.less (2 * i + 2) i (by omega) (by omega) false HL3.out).mono ?_); rintro e w4 ⟨rfl, hs4, c4⟩
          have HP4 := Aside0.mk (show DS w w4 p u v n i0 i b xs ys from ⟨hs4, HP.out.dn, HP.out.lo, HP.out.lt, HP.out.tl⟩)
          clear hs4 hm3
          go_wp2
          go_ret
          exact ⟨b, ys, by first | rfl | simp, HP4.out.h, HP4.out.tl, HP4.out.stop (HLs.out.stop lessI_wo HL3.out)⟩
        | true =>
          have HL3 := Lib.hid hl3
          clear hl3
          go_wp2_with fail
          (with_reducible refine (show Calls Try.prog 134 #[v, .int .i64 (2 * (i : Int) + 1 + 1), .int .i64 (i : Int)] _ _ from q2 ▸ HP2.out.h.less (2 * i + 2) i (by omega) (by omega) true HL3.out).mono ?_); rintro e w4 ⟨rfl, hs4, c4⟩
          have HP4 := Aside0.mk (show DS w w4 p u v n i0 i b xs ys from ⟨hs4, HP.out.dn, HP.out.lo, HP.out.lt, HP.out.tl⟩)
          clear hs4 hm3
          have hm4 := meth_swap p v _ c4
          go_wp2_with fail
          (with_reducible refine (show Calls Try.prog 135 #[v, .int .i64 (i : Int), .int .i64 (2 * (i : Int) + 1 + 1)] _ _ from q2 ▸ HP4.out.h.swap i (2 * i + 2) (by omega) (by omega) (by omega)).mono ?_); rintro e w5 ⟨rfl, hs5⟩
          have HP5 := Aside0.mk (HP4.out.step hn hs5 HLs.out HL3.out)
          clear hs5
          go_wp2
          go_roundw
          case rel => exact ⟨2 * i + 2, true, _, by first | rfl | (rw [q2]) | simp, by omega, HP5⟩
          case measure => simp [intOf]; omega
      | false =>
        have HLs := Aside0.mk (Least.left lessI_wo (show 2 * i + 1 < n by omega) hl)
        have HL := Lib.hid hl
        clear hl
        go_wp2_with fail
        (with_reducible refine (show Calls Try.prog 134 #[v, .int .i64 (2 * (i : Int) + 1 + 1), .int .i64 (2 * (i : Int) + 1)] _ _ from q1 ▸ q2 ▸ HP.out.h.less (2 * i + 2) (2 * i + 1) (by omega) (by omega) false HL.out).mono ?_); rintro e w2 ⟨rfl, hs2, c2⟩
        have HP2 := Aside0.mk (show DS w w2 p u v n i0 i b xs ys from ⟨hs2, HP.out.dn, HP.out.lo, HP.out.lt, HP.out.tl⟩)
        clear hs2 hm
        have hm3 := meth_less p v _ c2
        cases hl3 : lessI (el z0 ys (2 * i + 1)) (el z0 ys i) with
        | false =>
          have HL3 := Lib.hid hl3
          clear hl3
          go_wp2_with fail
          (with_reducible refine (show Calls Try.prog 134 #[v, .int .i64 (2 * (i : Int) + 1), .int .i64 (i : Int)] _ _ from q1 ▸ HP2.out.h.less (2 * i + 1) i (by omega) (by omega) false HL3.out).mono ?_); rintro e w4 ⟨rfl, hs4, c4⟩
          have HP4 := Aside0.mk (show DS w w4 p u v n i0 i b xs ys from ⟨hs4, HP.out.dn, HP.out.lo, HP.out.lt, HP.out.tl⟩)
          clear hs4 hm3
          go_wp2
          go_ret
          exact ⟨b, ys, by first | rfl | simp, HP4.out.h, HP4.out.tl, HP4.out.stop (HLs.out.stop lessI_wo HL3.out)⟩
        | true =>
          have HL3 := Lib.hid hl3
          clear hl3
          go_wp2_with fail
          (with_reducible refine (show Calls Try.prog 134 #[v, .int .i64 (2 * (i : Int) + 1), .int .i64 (i : Int)] _ _ from q1 ▸ HP2.out.h.less (2 * i + 1) i (by omega) (by omega) true HL3.out).mono ?_); rintro e w4 ⟨rfl, hs4, c4⟩
          have HP4 := Aside0.mk (show DS w w4 p u v n i0 i b xs ys from ⟨hs4, HP.out.dn, HP.out.lo, HP.out.lt, HP.out.tl⟩)
          clear hs4 hm3
          have hm4 := meth_swap p v _ c4
          go_wp2_with fail
          (with_reducible refine (show Calls Try.prog 135 #[v, .int .i64 (i : Int), .int .i64 (2 * (i : Int) + 1)] _ _ from q1 ▸ HP4.out.h.swap i (2 * i + 1) (by omega) (by omega) (by omega)).mono ?_); rintro e w5 ⟨rfl, hs5⟩
          have HP5 := Aside0.mk (HP4.out.step hn hs5 HLs.out HL3.out)
          clear hs5
          go_wp2
          go_roundw
          case rel => exact ⟨2 * i + 1, true, _, by first | rfl | (rw [q1]) | simp, by omega, HP5⟩
          case measure => simp [intOf]; omega
    · have a2 : decide (2 * (i : Int) + 1 + 1 < (n : Int)) = false := decide_eq_false (by omega)
      have HLs := Aside0.mk (Least.one (z := z0) (xs := ys) lessI_wo (show 2 * i + 1 < n by omega) (by omega))
      have HP2 := HP
      have c2 := c0
      have hm3 := meth_less p v _ c2
      cases hl3 : lessI (el z0 ys (2 * i + 1)) (el z0 ys i) with
      | false =>
        have HL3 := Lib.hid hl3
        clear hl3
        go_wp2_with fail
        (with_reducible refine (show Calls Try.prog 134 #[v, .int .i64 (2 * (i : Int) + 1), .int .i64 (i : Int)] _ _ from q1 ▸ HP2.out.h.less (2 * i + 1) i (by omega) (by omega) false HL3.out).mono ?_); rintro e w4 ⟨rfl, hs4, c4⟩
        have HP4 := Aside0.mk (show DS w w4 p u v n i0 i b xs ys from ⟨hs4, HP.out.dn, HP.out.lo, HP.out.lt, HP.out.tl⟩)
        clear hs4 hm3
        go_wp2
        go_ret
        exact ⟨b, ys, by first | rfl | simp, HP4.out.h, HP4.out.tl, HP4.out.stop (HLs.out.stop lessI_wo HL3.out)⟩
      | true =>
        have HL3 := Lib.hid hl3
        clear hl3
        go_wp2_with fail
        (with_reducible refine (show Calls Try.prog 134 #[v, .int .i64 (2 * (i : Int) + 1), .int .i64 (i : Int)] _ _ from q1 ▸ HP2.out.h.less (2 * i + 1) i (by omega) (by omega) true HL3.out).mono ?_); rintro e w4 ⟨rfl, hs4, c4⟩
        have HP4 := Aside0.mk (show DS w w4 p u v n i0 i b xs ys from ⟨hs4, HP.out.dn, HP.out.lo, HP.out.lt, HP.out.tl⟩)
        clear hs4 hm3
        have hm4 := meth_swap p v _ c4
        go_wp2_with fail
        (with_reducible refine (show Calls Try.prog 135 #[v, .int .i64 (i : Int), .int .i64 (2 * (i : Int) + 1)] _ _ from q1 ▸ HP4.out.h.swap i (2 * i + 1) (by omega) (by omega) (by omega)).mono ?_); rintro e w5 ⟨rfl, hs5⟩
        have HP5 := Aside0.mk (HP4.out.step hn hs5 HLs.out HL3.out)
        clear hs5
        go_wp2
        go_roundw
        case rel => exact ⟨2 * i + 1, true, _, by first | rfl | (rw [q1]) | simp, by omega, HP5⟩
        case measure => simp [intOf]; omega
end Go.Proofs.Ytjgoddieamphpaa.Wh
