/- probe.Table[int]: next, home, walk. -/
import Derived.Test.YtjgoddieamphpaaOTD
import Derived.Deep.QuietTactic
import Derived.BigQuiet
namespace Go.Proofs.Ytjgoddieamphpaa.Obj
open Go.RowKit Go.Proofs.YtjgoddieamphpaaW.PrintWords Go.Proofs.YtjgoddieamphpaaW.PrintLast Probe
set_option maxRecDepth 100000
set_option linter.unusedVariables false
abbrev TabI := Tab (α := Int) (Value.int .i64) (.int .i64 0) 101 103
abbrev TabS := Tab (α := ByteArray) Value.string (.string ⟨#[]⟩) 93 95
theorem inext_any (p b : Nat) (N i : Nat) (w : World) (hc2 : w.cell? ⟨p, 2, none⟩ = some (.slice (some ⟨b, 0, none⟩) N N)) (hi : i < N) (hN : N ≤ 10000) :
    Calls Try.prog 68 #[.pointer (some ⟨p, 0, none⟩), .int .i64 (i : Int)] w fun e w' => e = .returned (.int .i64 (((i + 1) % N : Nat) : Int)) ∧ w = w' := by
  have e1 : ((N : Int) == 0) = false := by simp; omega
  go_enter Try.func68, Try.ntmps68
  go_wp2
  go_ret
  exact ⟨by simp, rfl⟩
theorem ihome_any (p b : Nat) (N : Nat) (s : ByteArray) (w : World) (hc2 : w.cell? ⟨p, 2, none⟩ = some (.slice (some ⟨b, 0, none⟩) N N)) (hs : s.size ≤ 9223372036854775807) (hn : 0 < N) (hN : N ≤ 10000) :
    Calls Try.prog 69 #[.pointer (some ⟨p, 0, none⟩), .string s] w fun e w' => e = .returned (.int .i64 (slotN s N : Nat)) ∧ w = w' := by
  go_enter Try.func69, Try.ntmps69
  go_wp2_with fail
  (with_reducible refine (slot_any s N _ hs hn hN).mono ?_); rintro e w' ⟨rfl, rfl⟩
  go_wp2
  go_ret
  exact ⟨rfl, rfl⟩
theorem iwalk_any {p b most : Nat} {sl : List (Option (Ent Int))} {w : World} (key : ByteArray) (HT : TabI w p b most sl) (hs : key.size ≤ 9223372036854775807) :
    Calls Try.prog 67 #[.pointer (some ⟨p, 0, none⟩), .string key] w fun e w' => ∃ d, d < 2 * most ∧ e = .returned (.int .i64 (cyc (2 * most) (slotN key (2 * most) + d) : Nat)) ∧ w = w' ∧
      Passed (fun k => slotN k (2 * most)) (2 * most) sl key d ∧ (at_ sl (cyc (2 * most) (slotN key (2 * most) + d)) = none ∨ ∃ v, at_ sl (cyc (2 * most) (slotN key (2 * most) + d)) = some (key, v)) := by
  have hn : 0 < 2 * most := by have := HT.pos; omega
  have hN : 2 * most ≤ 10000 := by have := HT.big; omega
  have hc2 := HT.c2
  have hH := slotN_lt key (2 * most) hn
  have HT := Aside0.mk HT
  go_enter Try.func67, Try.ntmps67
  go_wp2_with fail
  (with_reducible refine (ihome_any p b (2 * most) key _ hc2 hs hn hN).mono ?_); rintro e w' ⟨rfl, rfl⟩
  go_wp2
  go_loopg [5] (2 * most) (fun kq v5 w' => ∃ d : Nat, v5 = .int .i64 (cyc (2 * most) (slotN key (2 * most) + d) : Nat) ∧ Aside0 (kq + d = 2 * most ∧ d < 2 * most ∧ Passed (fun k => slotN k (2 * most)) (2 * most) sl key d) ∧ w = w')
  case atStart => exact ⟨0, by rw [Nat.add_zero, show cyc (2 * most) (slotN key (2 * most)) = slotN key (2 * most) from if_pos hH], ⟨by omega, hn, fun j hj => by omega⟩, rfl⟩
  case round =>
    obtain ⟨d, rfl, HD, rfl⟩ := hrel
    have hi : cyc (2 * most) (slotN key (2 * most) + d) < 2 * most := cyc_lt (by have := HD.out.2.1; omega)
    cases hx : at_ sl (cyc (2 * most) (slotN key (2 * most) + d)) with
    | none =>
      have HX := Lib.hid hx
      obtain ⟨h0, h1, h2⟩ := HT.out.none_at hi hx
      clear h1 h2 hx
      generalize hc : cyc (2 * most) (slotN key (2 * most) + d) = i at *
      go_wp2
      go_ret
      exact ⟨d, HD.out.2.1, by rw [hc]; rfl, rfl, HD.out.2.2, .inl (by rw [hc]; exact HX.out)⟩
    | some x =>
      obtain ⟨k2, v⟩ := x
      have HX := Lib.hid hx
      obtain ⟨h0, h1, h2⟩ := HT.out.some_at hi hx
      clear h2 hx
      by_cases hk : k2 = key
      · subst hk
        generalize hc : cyc (2 * most) (slotN k2 (2 * most) + d) = i at *
        have HC := Lib.hid hc
        clear hc
        go_wp2
        go_ret
        exact ⟨d, HD.out.2.1, by rw [HC.out]; rfl, rfl, HD.out.2.2, .inr ⟨v, by rw [HC.out]; exact HX.out⟩⟩
      · have HP : Aside0 (d + 1 < 2 * most ∧ Passed (fun k => slotN k (2 * most)) (2 * most) sl key (d + 1)) := by
          have hp : Passed (fun k => slotN k (2 * most)) (2 * most) sl key (d + 1) := by
            intro j hj
            by_cases hjd : j = d
            · subst hjd; exact ⟨k2, v, HX.out, hk⟩
            · exact HD.out.2.2 j (by omega)
          exact ⟨passed_lt HT.out.wf HT.out.free (by have := HD.out.2.1; omega) hp, hp⟩
        have b1 : (k2.toList == key.toList) = false := by simpa using bytes_ne hk
        have b2 : (k2.toList != key.toList) = true := by simpa using bytes_ne hk
        have HS := Lib.hid (cyc_step (2 * most) (slotN key (2 * most)) d hH (HP.out.1))
        clear hk
        generalize hc : cyc (2 * most) (slotN key (2 * most) + d) = i at *
        have HC := Lib.hid hc
        clear hc
        go_wp2_with fail
        (with_reducible refine (inext_any p b (2 * most) i _ hc2 hi hN).mono ?_); rintro e w' ⟨rfl, rfl⟩
        go_wp2
        go_roundg (gk - 1)
        case measure => have := HD.out; omega
        case rel => exact ⟨d + 1, by rw [← HS.out]; simp, ⟨by have := HD.out; omega, HP.out.1, HP.out.2⟩, rfl⟩

end Go.Proofs.Ytjgoddieamphpaa.Obj
