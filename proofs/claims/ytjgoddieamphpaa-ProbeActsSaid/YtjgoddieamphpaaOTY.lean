/- A part of the proof. -/
import Derived.Test.YtjgoddieamphpaaOTX
namespace Go.Proofs.Ytjgoddieamphpaa.Obj
open Go.RowKit Go.Proofs.YtjgoddieamphpaaW.PrintWords Go.Proofs.YtjgoddieamphpaaW.PrintLast Probe Go.Proofs.Ytjgoddieamphpaa.PProbeActs
set_option maxRecDepth 100000
set_option linter.unusedVariables false
/-- The keys of the first i slots. -/
def ku (sl : List (Option (Ent Int))) (i : Nat) : List ByteArray := (items (sl.take i)).map (·.1)
theorem ku_zero (sl : List (Option (Ent Int))) : ku sl 0 = [] := rfl
theorem take_succ_at (sl : List (Option (Ent Int))) (i : Nat) (hi : i < sl.length) : sl.take (i + 1) = sl.take i ++ [at_ sl i] := by
  rw [List.take_add_one, List.getElem?_eq_getElem hi]
  unfold at_
  rw [List.getD_eq_getElem?_getD, List.getElem?_eq_getElem hi]
  rfl
theorem ku_none (sl : List (Option (Ent Int))) (i : Nat) (hi : i < sl.length) (h : at_ sl i = none) : ku sl (i + 1) = ku sl i := by
  unfold ku items; rw [take_succ_at sl i hi, h]; simp
theorem ku_some (sl : List (Option (Ent Int))) (i : Nat) (hi : i < sl.length) {k : ByteArray} {v : Int} (h : at_ sl i = some (k, v)) : ku sl (i + 1) = ku sl i ++ [k] := by
  unfold ku items; rw [take_succ_at sl i hi, h]; simp
theorem ku_len (sl : List (Option (Ent Int))) (i : Nat) : (ku sl i).length ≤ i := by
  unfold ku items; rw [List.length_map]
  have := List.length_filterMap_le id (sl.take i)
  have h2 := List.length_take_le i sl
  omega
theorem ku_all (sl : List (Option (Ent Int))) : ku sl sl.length = (items sl).map (·.1) := by unfold ku; rw [List.take_length]
structure KS (w0 w : World) (p b most : Nat) (sl : List (Option (Ent Int))) (L : List ByteArray) (v : Value) : Prop where
  t : TabI w p b most sl
  r : Kd.R Kd.string 9 w w0.heap.size (fun _ => True) v L
  f : Below w0.heap.size w0 w
theorem KS.appended {w0 w w1 : World} {p b most : Nat} {sl : List (Option (Ent Int))} {L L' : List ByteArray} {v v' : Value} (h : KS w0 w p b most sl L v) (g : w.grownBy w1 v.ownBlock) (r' : Kd.R Kd.string 9 w1 w0.heap.size (fun _ => True) v' L') (hb1 : Below w0.heap.size w0 w1) : KS w0 w1 p b most sl L' v' := by
  have fr : Frm (fun j => some j = v.ownBlock) w w1 := ⟨g.os, g.tape, g.output, g.size, fun j hj hn => g.block j hj hn⟩
  exact ⟨h.t.frm fr (Kd.R_ne h.r h.t.hd (by decide)) (Kd.R_ne h.r h.t.bk (by decide)), r', hb1⟩
theorem ikeys {p b most : Nat} {sl : List (Option (Ent Int))} {w : World} (HT : TabI w p b most sl) (hm : most ≤ 100000) :
    Calls Try.prog 80 #[.pointer (some ⟨p, 0, none⟩)] w fun e w' => ∃ (A : Option Addr) (c : Nat), e = .returned (.slice A (ku sl (2 * most)).length c) ∧ Kd.R Kd.string 9 w' w.heap.size (fun _ => True) (.slice A (ku sl (2 * most)).length c) (sortB (ku sl (2 * most))) ∧ Frm (fun _ => False) w w' := by
  have hlen := HT.len
  have HT := Aside0.mk HT
  go_enter Try.func80, Try.ntmps80
  go_wp2_with fail
  (with_reducible refine (islots_any HT.out).mono ?_); rintro e w' ⟨rfl, rfl⟩
  go_wp2
  go_loopw [3, 9] (fun v3 v9 wr => ∃ (A : Option Addr) (c : Nat) (i : Nat), v3 = .slice A (ku sl i).length c ∧ v9 = .int .i64 (i : Nat) ∧ i ≤ 2 * most ∧ Aside0 (KS w wr p b most sl (ku sl i) (.slice A (ku sl i).length c))) (fun _ v9 _ => 2 * most - (intOf v9).toNat)
  case atStart => exact ⟨none, 0, 0, rfl, rfl, Nat.zero_le _, ⟨HT.out, Kd.R_nil _ _ _ _ _, Below.refl _ _⟩⟩
  case round =>
    clear HT
    obtain ⟨A, c, i, rfl, rfl, hi, HK⟩ := hrel
    by_cases hlt : i < 2 * most
    · have z1 : decide ((i : Int) < ((2 * most : Nat) : Int)) = true := decide_eq_true (by omega)
      have z2 : decide ((i : Int) < 2 * (most : Int)) = true := decide_eq_true (by omega)
      have z3 : decide (i < 2 * most) = true := decide_eq_true (by omega)
      have hkl := ku_len sl i
      cases hx : at_ sl i with
      | none =>
        have HX := Lib.hid hx
        clear hx
        go_wp2_with fail
        (with_reducible refine (iowner_none HK.out.t i hlt HX.out).mono ?_); rintro e w2 ⟨rfl, rfl⟩
        go_wp2
        go_roundw
        case rel => exact ⟨A, c, i + 1, by rw [ku_none sl i (by omega) HX.out], by go_num, by omega, by rw [ku_none sl i (by omega) HX.out]; exact HK⟩
        case measure => simp [intOf]; omega
      | some x =>
        obtain ⟨k, v⟩ := x
        have HX := Lib.hid hx
        clear hx
        go_wp2_with fail
        (with_reducible refine (iowner_some HK.out.t i hlt HX.out).mono ?_); rintro e w2 ⟨rfl, rfl⟩
        go_wp2_with (first | (at_builtin; refine Kd.R_append Kd.string _ rfl (.tmp 19) (.tmp 21) 22 9 (.string ⟨#[]⟩) 16 rfl Try.underlying22 info_str rfl (by decide) (by omega) (.slice A (ku sl i).length c) (ku sl i) k [.string k] (fun _ => True) (fun _ => False) rfl rfl rfl (fun _ h => h.elim) (fun _ _ => trivial) HK.out.r HK.out.f HK.out.f.size (by omega) ?_; intro v4 w4 hv4 hb4 hg4 hx4; have HK3 := Aside0.mk (HK.out.appended hg4 hv4 hb4); obtain ⟨A4, c4, e4⟩ := Kd.R_slice hv4; subst e4; clear hv4 hb4 hg4 hx4))
        go_roundw
        case rel => exact ⟨A4, c4, i + 1, by rw [ku_some sl i (by omega) HX.out, List.length_append]; rfl, by go_num, by omega, by rw [ku_some sl i (by omega) HX.out]; exact HK3⟩
        case measure => simp [intOf]; omega
    · obtain rfl : i = 2 * most := by omega
      have z1 : decide (((2 * most : Nat) : Int) < ((2 * most : Nat) : Int)) = false := decide_eq_false (by omega)
      have z2 : decide (2 * (most : Int) < 2 * (most : Int)) = false := decide_eq_false (by omega)
      have hkl := ku_len sl (2 * most)
      go_wp2_with fail
      (with_reducible refine (sort_R HK.out.r (by omega)).mono ?_); rintro e w2 ⟨rfl, hr2, hg2⟩
      have HR2 := Aside0.mk hr2
      have HG2 := Aside0.mk hg2
      clear hr2 hg2
      go_wp2
      go_ret
      refine ⟨A, c, rfl, HR2.out, ?_⟩
      have g := HG2.out
      have fr : Frm (fun j => some j = (Value.slice A (ku sl (2 * most)).length c).ownBlock) _ _ := ⟨g.os, g.tape, g.output, g.size, fun j hj hn => g.block j hj hn⟩
      exact (Frm.of_below HK.out.f).then fr (fun i hi hk => by have h3 := ((Kd.R_bound HK.out.r).1 i hk.symm).2.1; omega)
end Go.Proofs.Ytjgoddieamphpaa.Obj
