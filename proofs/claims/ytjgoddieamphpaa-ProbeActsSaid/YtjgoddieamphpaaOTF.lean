/- probe.Table[int]: At, Len, Get. -/
import Derived.Test.YtjgoddieamphpaaOTE
import Derived.Deep.QuietTactic
import Derived.BigQuiet
namespace Go.Proofs.Ytjgoddieamphpaa.Obj
open Go.RowKit Go.Proofs.YtjgoddieamphpaaW.PrintWords Go.Proofs.YtjgoddieamphpaaW.PrintLast Probe
set_option maxRecDepth 100000
set_option linter.unusedVariables false
theorem ihit_eq {p b most : Nat} {sl : List (Option (Ent Int))} {w : World} {key : ByteArray} (HT : TabI w p b most sl) {i : Nat} {v : Int} (he : at_ sl i = some (key, v)) {d : Nat} (hd : d < 2 * most)
    (hp : Passed (fun k => slotN k (2 * most)) (2 * most) sl key d) (h : at_ sl (cyc (2 * most) (slotN key (2 * most) + d)) = none ∨ ∃ v, at_ sl (cyc (2 * most) (slotN key (2 * most) + d)) = some (key, v)) : cyc (2 * most) (slotN key (2 * most) + d) = i := by
  rcases h with h | ⟨v', h⟩
  · exact absurd (present he) (absent HT.wf hd hp h v)
  · exact HT.wf.inj h he
theorem imiss_eq {p b most : Nat} {sl : List (Option (Ent Int))} {w : World} {key : ByteArray} (HT : TabI w p b most sl) (hm : ∀ v, (key, v) ∉ items sl) {d : Nat}
    (h : at_ sl (cyc (2 * most) (slotN key (2 * most) + d)) = none ∨ ∃ v, at_ sl (cyc (2 * most) (slotN key (2 * most) + d)) = some (key, v)) : at_ sl (cyc (2 * most) (slotN key (2 * most) + d)) = none := by
  rcases h with h | ⟨v', h⟩
  · exact h
  · exact absurd (present h) (hm v')
theorem iat_hit {p b most : Nat} {sl : List (Option (Ent Int))} {w : World} {key : ByteArray} (HT : TabI w p b most sl) (hs : key.size ≤ 9223372036854775807) {i : Nat} {v : Int} (he : at_ sl i = some (key, v)) (hi : i < 2 * most) :
    Calls Try.prog 50 #[.pointer (some ⟨p, 0, none⟩), .string key] w fun e w' => e = .returned (.int .i64 (i : Nat)) ∧ w = w' := by
  have HE := Lib.hid he
  have hc2 := HT.c2
  obtain ⟨h0, h1, h2⟩ := HT.some_at hi he
  clear h1 h2 he
  have HT := Aside0.mk HT
  go_enter Try.func50, Try.ntmps50
  go_wp2_with fail
  (with_reducible refine (iwalk_any key HT.out hs).mono ?_); rintro e w' ⟨d, hd, rfl, rfl, hp, hx⟩
  obtain hh := ihit_eq HT.out HE.out hd hp hx
  rw [hh]
  clear hh hp hx hd
  go_wp2
  go_ret
  exact ⟨rfl, rfl⟩
theorem iat_miss {p b most : Nat} {sl : List (Option (Ent Int))} {w : World} {key : ByteArray} (HT : TabI w p b most sl) (hs : key.size ≤ 9223372036854775807) (hm : ∀ v, (key, v) ∉ items sl) :
    Calls Try.prog 50 #[.pointer (some ⟨p, 0, none⟩), .string key] w fun e w' => e = .returned (.int .i64 (-1)) ∧ w = w' := by
  have HM := Lib.hid hm
  clear hm
  have hc2 := HT.c2
  have hn : 0 < 2 * most := by have := HT.pos; omega
  have hH := slotN_lt key (2 * most) hn
  have HT := Aside0.mk HT
  go_enter Try.func50, Try.ntmps50
  go_wp2_with fail
  (with_reducible refine (iwalk_any key HT.out hs).mono ?_); rintro e w' ⟨d, hd, rfl, rfl, hp, hx⟩
  have hx := imiss_eq HT.out HM.out hx
  have hi : cyc (2 * most) (slotN key (2 * most) + d) < 2 * most := cyc_lt (by omega)
  obtain ⟨h0, h1, h2⟩ := HT.out.none_at hi hx
  clear h1 h2 hx hp hd
  generalize cyc (2 * most) (slotN key (2 * most) + d) = i at *
  go_wp2
  go_ret
  exact ⟨rfl, rfl⟩
theorem iat_nil (key : ByteArray) (w : World) :
    Calls Try.prog 50 #[.pointer none, .string key] w fun e w' => e = .returned (.int .i64 (-1)) ∧ w = w' := by
  go_enter Try.func50, Try.ntmps50
  go_wp2
  go_ret
  exact ⟨rfl, rfl⟩
theorem ilen_any {p b most : Nat} {sl : List (Option (Ent Int))} {w : World} (HT : TabI w p b most sl) :
    Calls Try.prog 23 #[.pointer (some ⟨p, 0, none⟩)] w fun e w' => e = .returned (.int .i64 ((items sl).length : Nat)) ∧ w = w' := by
  have hc1 := HT.c1
  go_enter Try.func23, Try.ntmps23
  go_wp2
  go_ret
  exact ⟨rfl, rfl⟩
theorem ilen_nil (w : World) :
    Calls Try.prog 23 #[.pointer none] w fun e w' => e = .returned (.int .i64 0) ∧ w = w' := by
  go_enter Try.func23, Try.ntmps23
  go_wp2
  go_ret
  exact ⟨rfl, rfl⟩
theorem iput_nil (key : ByteArray) (v : Int) (w : World) :
    Calls Try.prog 21 #[.pointer none, .string key, Value.int .i64 v] w fun e w' => e = .returned (.int .i64 6) ∧ w = w' := by
  go_enter Try.func21, Try.ntmps21
  go_wp2
  go_ret
  exact ⟨rfl, rfl⟩
theorem iget_hit {p b most : Nat} {sl : List (Option (Ent Int))} {w : World} {key : ByteArray} (HT : TabI w p b most sl) (hs : key.size ≤ 9223372036854775807) {i : Nat} {v : Int} (he : at_ sl i = some (key, v)) (hi : i < 2 * most) :
    Calls Try.prog 49 #[.pointer (some ⟨p, 0, none⟩), .string key] w fun e w' => e = .returned (.tuple #[Value.int .i64 v, .bool true]) ∧ w = w' := by
  have HE := Lib.hid he
  have hc2 := HT.c2
  obtain ⟨h0, h1, h2⟩ := HT.some_at hi he
  clear h1 h0 he
  have HT := Aside0.mk HT
  have hlt : ¬ ((i : Int) < 0) := by omega
  go_enter Try.func49, Try.ntmps49
  go_wp2_with fail
  (with_reducible refine (iat_hit HT.out hs HE.out hi).mono ?_); rintro e w' ⟨rfl, rfl⟩
  go_wp2
  go_ret2
  exact ⟨rfl, rfl⟩
theorem iget_miss {p b most : Nat} {sl : List (Option (Ent Int))} {w : World} {key : ByteArray} (HT : TabI w p b most sl) (hs : key.size ≤ 9223372036854775807) (hm : ∀ v, (key, v) ∉ items sl) :
    Calls Try.prog 49 #[.pointer (some ⟨p, 0, none⟩), .string key] w fun e w' => e = .returned (.tuple #[.int .i64 0, .bool false]) ∧ w = w' := by
  have HM := Lib.hid hm
  clear hm
  have HT := Aside0.mk HT
  go_enter Try.func49, Try.ntmps49
  go_wp2_with fail
  (with_reducible refine (iat_miss HT.out hs HM.out).mono ?_); rintro e w' ⟨rfl, rfl⟩
  go_wp2
  go_ret2
  exact ⟨rfl, rfl⟩

end Go.Proofs.Ytjgoddieamphpaa.Obj
