/- awake. -/
import Derived.Test.YtjgoddieamphpaaOTO
namespace Go.Proofs.Ytjgoddieamphpaa.Obj
open Go.RowKit Go.Proofs.YtjgoddieamphpaaW.PrintWords Go.Proofs.YtjgoddieamphpaaW.PrintLast Probe Go.Proofs.Ytjgoddieamphpaa.PProbeActs
set_option maxRecDepth 100000
set_option linter.unusedVariables false
/-- One key alone stands at its home. -/
theorem alone_home {α : Type} {N : Nat} {h : ByteArray → Nat} {sl : List (Option (Ent α))} (w : WF h N sl) (hN : 2 ≤ N) (h1 : (items sl).length = 1) {i : Nat} {k : ByteArray} {v : α} (hi : i < N) (he : at_ sl i = some (k, v)) : i = h k := by
  have hh := w.home k
  apply Classical.byContradiction
  intro hne
  have hd : 1 ≤ dist N (h k) i := by unfold dist cyc; split <;> omega
  have hr := w.reach i k v hi he 1 (Nat.le_refl _) hd
  have hq : cyc N (i + N - 1) ≠ i := by unfold cyc; split <;> omega
  cases hx : at_ sl (cyc N (i + N - 1)) with
  | none => exact hr hx
  | some x =>
    have e1 := items_out sl i _ he
    have hl : i < sl.length := by rw [w.len]; exact hi
    have hx2 : at_ (sl.set i none) (cyc N (i + N - 1)) = some x := by rw [at_set _ _ _ _ hl, if_neg (Ne.symm hq)]; exact hx
    have e2 := items_out _ _ _ hx2
    have := e1.length_eq
    have := e2.length_eq
    simp only [List.length_cons] at *
    omega
theorem iat_one {φ : Int → Int} {w : World} {p b : Nat} {c : S98} (h : TLI φ w p b 1 [c]) (hs : c.f0.size ≤ 9223372036854775807) :
    Calls Try.prog 50 #[.pointer (some ⟨p, 0, none⟩), .string c.f0] w fun e w' => e = .returned (.int .i64 (slotN c.f0 2 : Nat)) ∧ w = w' := by
  obtain ⟨sl, h1, h2⟩ := h
  have hi : idx [c] c.f0 = some 0 := if_pos rfl
  obtain ⟨q, hq, he⟩ := itl_hit h1 h2 hi
  have hlen : (items sl).length = 1 := by rw [h2.length_eq]; rfl
  have := alone_home h1.wf (by omega) hlen hq he
  refine (iat_hit h1 hs he hq).mono ?_
  rintro e w' ⟨a, c⟩
  exact ⟨by rw [a, this], c⟩
theorem new_to {F : Nat → Prop} {a b c : World} {p q : Nat} (h : Frm F a b) (k : Frm (fun i => i = p ∨ i = q) b c) (hp : a.heap.size ≤ p) (hq : a.heap.size ≤ q) : Frm F a c :=
  h.then k (fun i hi hk => by rcases hk with rfl | rfl <;> omega)
theorem itnew1 (w : World) : Calls Try.prog 20 #[.int .i64 1] w fun e w' => ∃ p b, e = .returned (.tuple #[.pointer (some ⟨p, 0, none⟩), .int .i64 0]) ∧ TLI (fun x => x) w' p b 1 [] ∧ w.heap.size ≤ p ∧ w.heap.size ≤ b ∧ Frm (fun _ => False) w w' := itnew (φ := fun x => x) 1 (by omega) (by omega) w
def kA : ByteArray := ⟨#[97]⟩
def kB : ByteArray := ⟨#[98]⟩
section
variable {w : World} {p b : Nat}
theorem aw_get1 (h : TLI (fun x => x) w p b 1 [⟨⟨#[97]⟩, 9, 0⟩]) : Calls Try.prog 49 #[.pointer (some ⟨p, 0, none⟩), .string ⟨#[97]⟩] w fun e w' => e = .returned (.tuple #[.int .i64 9, .bool true]) ∧ w = w' := itget h ⟨#[97]⟩ (by decide) 0 rfl
theorem aw_get2 (h : TLI (fun x => x) w p b 1 [⟨⟨#[97]⟩, 9, 0⟩]) : Calls Try.prog 49 #[.pointer (some ⟨p, 0, none⟩), .string ⟨#[98]⟩] w fun e w' => e = .returned (.tuple #[.int .i64 0, .bool false]) ∧ w = w' := itget h ⟨#[98]⟩ (by decide) 0 rfl
theorem aw_len (h : TLI (fun x => x) w p b 1 [⟨⟨#[97]⟩, 9, 0⟩]) : Calls Try.prog 23 #[.pointer (some ⟨p, 0, none⟩)] w fun e w' => e = .returned (.int .i64 1) ∧ w = w' := itlen h
theorem aw_slots (h : TLI (fun x => x) w p b 1 [⟨⟨#[97]⟩, 9, 0⟩]) : Calls Try.prog 62 #[.pointer (some ⟨p, 0, none⟩)] w fun e w' => e = .returned (.int .i64 2) ∧ w = w' := by
  obtain ⟨sl, h1, _⟩ := h
  exact islots_any h1
theorem aw_at1 (h : TLI (fun x => x) w p b 1 [⟨⟨#[97]⟩, 9, 0⟩]) : Calls Try.prog 50 #[.pointer (some ⟨p, 0, none⟩), .string ⟨#[97]⟩] w fun e w' => e = .returned (.int .i64 (slotN ⟨#[97]⟩ 2 : Nat)) ∧ w = w' := by
  have := iat_one (c := ⟨⟨#[97]⟩, 9, 0⟩) h (show (⟨#[97]⟩ : ByteArray).size ≤ 9223372036854775807 from by decide)
  exact this
theorem aw_at2 (h : TLI (fun x => x) w p b 1 [⟨⟨#[97]⟩, 9, 0⟩]) : Calls Try.prog 50 #[.pointer (some ⟨p, 0, none⟩), .string ⟨#[98]⟩] w fun e w' => e = .returned (.int .i64 (-1)) ∧ w = w' := by
  obtain ⟨sl, h1, h2⟩ := h
  exact iat_miss h1 (by decide) (itl_miss h2 (by decide))
theorem aw_slot (w : World) : Calls Try.prog 63 #[.string ⟨#[97]⟩, .int .i64 2] w fun e w' => e = .returned (.int .i64 (slotN ⟨#[97]⟩ 2 : Nat)) ∧ w = w' := rslot_any ⟨#[97]⟩ 2 w (by decide) (by omega) (by omega)
end
theorem awake_any (w : World) : Calls Try.prog 13 #[] w fun e w' => e = .returned (.bool true) ∧ Frm (fun _ => False) w w' := by
  have n1 := inew_bad 0 (.inl (by omega))
  go_enter Try.func13, Try.ntmps13
  go_wp2_with fail
  (with_reducible refine (itnew1 _).mono ?_); rintro e w1 ⟨p, b, rfl, ht, hp, hb, hf⟩
  have HT := Aside0.mk ht
  have HF := Aside0.mk hf
  clear ht hf
  go_wp2_with fail
  (with_reducible refine (n1 _).mono ?_); rintro e w' ⟨rfl, rfl⟩
  clear n1
  go_wp2_with fail
  (with_reducible refine (itput HT.out ⟨#[97]⟩ (by decide) 7 7 rfl).mono ?_); rintro e w2 ⟨rfl, ht2, hf2⟩
  have HT2 := Aside0.mk ht2
  have HF2 := Aside0.mk (new_to HF.out hf2 hp hb)
  clear ht2 hf2 HT HF
  go_wp2_with fail
  (with_reducible refine (itput HT2.out ⟨#[98]⟩ (by decide) 8 8 rfl).mono ?_); rintro e w3 ⟨rfl, ht3, hf3⟩
  have HT3 := Aside0.mk ht3
  have HF3 := Aside0.mk (new_to HF2.out hf3 hp hb)
  clear ht3 hf3 HT2 HF2
  go_wp2_with fail
  (with_reducible refine (itput HT3.out ⟨#[97]⟩ (by decide) 9 9 rfl).mono ?_); rintro e w4 ⟨rfl, ht4, hf4⟩
  have HT4 := Aside0.mk (show TLI (fun x => x) w4 p b 1 [⟨⟨#[97]⟩, 9, 0⟩] from ht4)
  have HF4 := Aside0.mk (new_to HF3.out hf4 hp hb)
  clear ht4 hf4 HT3 HF3
  rw [show putC [] 1 ⟨#[97]⟩ = 0 from by decide, show putC (putL [] 1 ⟨#[97]⟩ 7) 1 ⟨#[98]⟩ = 6 from by decide, show putC (putL (putL [] 1 ⟨#[97]⟩ 7) 1 ⟨#[98]⟩ 8) 1 ⟨#[97]⟩ = 0 from by decide]
  go_wp2_with fail
  (with_reducible refine (aw_get1 HT4.out).mono ?_); rintro e w5 ⟨rfl, rfl⟩
  go_wp2_with fail
  (with_reducible refine (aw_get2 HT4.out).mono ?_); rintro e w5 ⟨rfl, rfl⟩
  go_wp2_with fail
  (with_reducible refine (aw_len HT4.out).mono ?_); rintro e w5 ⟨rfl, rfl⟩
  go_wp2_with fail
  (with_reducible refine (aw_slots HT4.out).mono ?_); rintro e w5 ⟨rfl, rfl⟩
  go_wp2_with fail
  (with_reducible refine (aw_at1 HT4.out).mono ?_); rintro e w5 ⟨rfl, rfl⟩
  go_wp2_with fail
  (with_reducible refine (aw_slot _).mono ?_); rintro e w5 ⟨rfl, rfl⟩
  go_wp2_with fail
  (with_reducible refine (aw_at2 HT4.out).mono ?_); rintro e w5 ⟨rfl, rfl⟩
  go_wp2_with fail
  (with_reducible refine (iput_nil ⟨#[97]⟩ 1 _).mono ?_); rintro e w5 ⟨rfl, rfl⟩
  go_wp2_with fail
  (with_reducible refine (iat_nil ⟨#[97]⟩ _).mono ?_); rintro e w5 ⟨rfl, rfl⟩
  go_wp2_with fail
  (with_reducible refine (ilen_nil _).mono ?_); rintro e w5 ⟨rfl, rfl⟩
  go_wp2
  go_ret
  exact ⟨rfl, HF4.out⟩
end Go.Proofs.Ytjgoddieamphpaa.Obj
