/- A part of the proof. -/
import Derived.Test.YtjgoddieamphpaaOWB
namespace Go.Proofs.Ytjgoddieamphpaa.Wh
open Go.RowKit Go.Sort Go.Proofs.YtjgoddieamphpaaW.PrintWords Go.Proofs.YtjgoddieamphpaaW.PrintLast Heap Go.Proofs.Ytjgoddieamphpaa.Obj
set_option maxRecDepth 100000
set_option linter.unusedVariables false
/-- A state while items change their places. -/
structure HS (w0 w : World) (p : Nat) (u v : Value) (xs xs' : List It) : Prop where
  r : WR w p u v xs'
  pm : xs'.Perm xs
  f : Frm (FW v xs) w0 w
theorem HS.len {w0 w : World} {p : Nat} {u v : Value} {xs xs' : List It} (h : HS w0 w p u v xs xs') : xs'.length = xs.length := h.pm.length_eq
theorem HS.less {w0 w : World} {p : Nat} {u v : Value} {xs xs' : List It} (h : HS w0 w p u v xs xs') (i j : Nat) (hi : i < xs.length) (hj : j < xs.length) (b : Bool) (hb : lessI (el z0 xs' i) (el z0 xs' j) = b) :
    Calls Try.prog 134 #[v, .int .i64 (i : Int), .int .i64 (j : Int)] w fun e w' => e = .returned (.bool b) ∧ HS w0 w' p u v xs xs' ∧ w'.cell? ⟨p, 0, none⟩ = some v := by
  subst hb
  refine (wless_any h.r i j (by rw [h.len]; exact hi) (by rw [h.len]; exact hj)).mono ?_
  rintro e w' ⟨a, n, rfl⟩
  exact ⟨a, ⟨h.r.drewN n, h.pm, h.f.drewN n⟩, (h.r.drewN n).c0⟩
theorem HS.swap {w0 w : World} {p : Nat} {u v : Value} {xs xs' : List It} (h : HS w0 w p u v xs xs') (i j : Nat) (hi : i < xs.length) (hj : j < xs.length) (hij : i ≠ j) :
    Calls Try.prog 135 #[v, .int .i64 (i : Int), .int .i64 (j : Int)] w fun e w' => e = .returned (.tuple #[]) ∧ HS w0 w' p u v xs (Heap.swap z0 xs' i j) := by
  have hi' : i < xs'.length := by rw [h.len]; exact hi
  have hj' : j < xs'.length := by rw [h.len]; exact hj
  refine (wswap_any h.r i j hi' hj' hij).mono ?_
  rintro e w' ⟨a, k, kf⟩
  exact ⟨a, ⟨k, (swap_perm xs' i j hi' hj').trans h.pm, h.f.trans (kf.mono fun b _ hb => FW.perm h.pm b hb)⟩⟩
theorem up_any {w : World} {p n : Nat} {u v : Value} {xs : List It} (h : WR w p u v xs) (hn : n ≤ xs.length) (j : Nat) (hj : j < n) (hu : Up z0 lessI n xs j) :
    Calls Try.prog 87 #[.iface 113 (.pointer (some ⟨p, 0, none⟩)), .int .i64 (j : Int)] w fun e w' => e = .returned (.tuple #[]) ∧ ∃ xs', HS w w' p u v xs xs' ∧ Ok z0 lessI n xs' ∧ ∀ k, n ≤ k → el z0 xs' k = el z0 xs k := by
  have hfew := h.few
  have HP := Aside0.mk (show HS w w p u v xs xs from ⟨h, List.Perm.refl _, Frm.refl _ w⟩)
  have HU := Lib.hid hu
  clear h hu
  go_enter Try.func87, Try.ntmps87
  go_wp2
  go_loopw [1] (fun v1 wr => ∃ (j : Nat) (ys : List It), v1 = .int .i64 (j : Nat) ∧ j < n ∧ Aside0 (HS w wr p u v xs ys) ∧ Aside0 (Up z0 lessI n ys j ∧ ∀ k, n ≤ k → el z0 ys k = el z0 xs k)) (fun v1 _ => (intOf v1).toNat)
  case atStart => exact ⟨j, xs, rfl, hj, HP, ⟨HU.out, fun _ _ => rfl⟩⟩
  case round =>
    clear HP HU hj
    obtain ⟨j, ys, rfl, hj, HP, HU⟩ := hrel
    by_cases h0 : j = 0
    · subst h0
      go_wp2
      go_end0
      exact ⟨rfl, ys, HP.out, HU.out.1.stop0, HU.out.2⟩
    · have e1 : Int.tdiv ((j : Int) - 1) 2 = (par j : Nat) := by rw [Int.tdiv_eq_ediv_of_nonneg (by omega)]; unfold par; omega
      have e2 : ((par j : Int) == (j : Int)) = false := by have := par_lt (c := j) (by omega); simp; omega
      have hpl := par_lt (c := j) (by omega)
      have c0 := HP.out.r.c0
      cases hl : lessI (el z0 ys j) (el z0 ys (par j)) with
      | false =>
        have HL := Lib.hid hl
        have hm := meth_less p v _ c0
        clear hl
        go_wp2_with fail
        (with_reducible refine (HP.out.less j (par j) (by omega) (by omega) false HL.out).mono ?_); rintro e w2 ⟨rfl, hs2, c2⟩
        have HP2 := Aside0.mk hs2
        clear hs2
        go_wp2
        go_end0
        exact ⟨rfl, ys, HP2.out, HU.out.1.stop HL.out, HU.out.2⟩
      | true =>
        have HL := Lib.hid hl
        have hm := meth_less p v _ c0
        clear hl
        go_wp2_with fail
        (with_reducible refine (HP.out.less j (par j) (by omega) (by omega) true HL.out).mono ?_); rintro e w2 ⟨rfl, hs2, c2⟩
        have HP2 := Aside0.mk hs2
        clear hs2
        have hm2 := meth_swap p v _ c2
        go_wp2_with fail
        (with_reducible refine (HP2.out.swap (par j) j (by omega) (by omega) (by omega)).mono ?_); rintro e w3 ⟨rfl, hs3⟩
        have HP3 := Aside0.mk hs3
        clear hs3
        go_wp2
        go_roundw
        case rel => exact ⟨par j, _, rfl, by omega, HP3, ⟨HU.out.1.step lessI_wo (by rw [HP.out.len]; omega) (by omega) hj HL.out, fun k hk => by rw [el_swap ys (par j) j k (by rw [HP.out.len]; omega) (by rw [HP.out.len]; omega), if_neg (by omega), if_neg (by omega)]; exact HU.out.2 k hk⟩⟩
        case measure => simp [intOf]; omega
theorem HS.drewN {w0 w : World} {p : Nat} {u v : Value} {xs xs' : List It} (h : HS w0 w p u v xs xs') (n : Nat) : HS w0 (w.drewN n) p u v xs xs' := ⟨h.r.drewN n, h.pm, h.f.drewN n⟩
end Go.Proofs.Ytjgoddieamphpaa.Wh
