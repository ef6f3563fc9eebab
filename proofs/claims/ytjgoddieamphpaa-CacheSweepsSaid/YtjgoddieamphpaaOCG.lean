/- A cache: part of the proof. -/
import Derived.Test.YtjgoddieamphpaaOCF
namespace Go.Proofs.Ytjgoddieamphpaa.Ca
open Go.RowKit Go.Sort Go.Proofs.YtjgoddieamphpaaW.PrintWords Go.Proofs.YtjgoddieamphpaaW.PrintLast Probe Go.Proofs.Ytjgoddieamphpaa.Obj Go.Proofs.Ytjgoddieamphpaa.PProbeActs
set_option maxRecDepth 100000
set_option linter.unusedVariables false
theorem rhold_any (x : Int) (w : World) : Calls Try.prog 78 #[.int .i64 x] w fun e w' => e = .returned (.int .i64 (hold x)) ∧ w = w' := by
  by_cases h1 : x < 0
  · have d1 : decide (x < 0) = true := decide_eq_true h1
    rw [show hold x = 0 by unfold hold; omega]
    clear h1
    go_enter Try.func78, Try.ntmps78
    go_wp2
    go_ret
    exact ⟨rfl, rfl⟩
  have d1 : decide (x < 0) = false := decide_eq_false h1
  by_cases h2 : 4611686018427387904 < x
  · have d2 : decide (4611686018427387904 < x) = true := decide_eq_true h2
    rw [show hold x = 4611686018427387904 by unfold hold; omega]
    clear h1 h2
    go_enter Try.func78, Try.ntmps78
    go_wp2
    go_ret
    exact ⟨rfl, rfl⟩
  have d2 : decide (4611686018427387904 < x) = false := decide_eq_false h2
  rw [show hold x = x by unfold hold; omega]
  clear h1 h2
  go_enter Try.func78, Try.ntmps78
  go_wp2
  go_ret
  exact ⟨rfl, rfl⟩
theorem radd_any (x y : Int) (w : World) : Calls Try.prog 42 #[.int .i64 x, .int .i64 y] w fun e w' => e = .returned (.int .i64 (nadd x y)) ∧ w = w' := by
  have hx := hold_rng x
  have hy := hold_rng y
  obtain ⟨a, ha⟩ : ∃ a, a = hold x := ⟨_, rfl⟩
  obtain ⟨b, hb⟩ : ∃ b, b = hold y := ⟨_, rfl⟩
  have hn : nadd x y = if 4611686018427387904 - b < a then 4611686018427387904 else a + b := by rw [ha, hb]; rfl
  rw [hn]
  rw [← ha] at hx
  rw [← hb] at hy
  have CX : ∀ w, Calls Try.prog 78 #[.int .i64 x] w fun e w' => e = .returned (.int .i64 a) ∧ w = w' := fun w => by rw [ha]; exact rhold_any x w
  have CY : ∀ w, Calls Try.prog 78 #[.int .i64 y] w fun e w' => e = .returned (.int .i64 b) ∧ w = w' := fun w => by rw [hb]; exact rhold_any y w
  have CX := Lib.hid CX
  have CY := Lib.hid CY
  clear ha hb hn
  by_cases h : 4611686018427387904 - b < a
  · have g1 : decide (4611686018427387904 - b < a) = true := decide_eq_true h
    rw [if_pos h]
    clear h
    go_enter Try.func42, Try.ntmps42
    go_wp2_with fail
    (with_reducible refine (CX.out _).mono ?_); rintro e w1 ⟨rfl, rfl⟩
    go_wp2_with fail
    (with_reducible refine (CY.out _).mono ?_); rintro e w1 ⟨rfl, rfl⟩
    go_wp2
    go_ret
    exact ⟨rfl, rfl⟩
  · have g1 : decide (4611686018427387904 - b < a) = false := decide_eq_false h
    rw [if_neg h]
    have hwr : wrap64 (a + b) = a + b := by unfold wrap64; omega
    clear h
    go_enter Try.func42, Try.ntmps42
    go_wp2_with fail
    (with_reducible refine (CX.out _).mono ?_); rintro e w1 ⟨rfl, rfl⟩
    go_wp2_with fail
    (with_reducible refine (CY.out _).mono ?_); rintro e w1 ⟨rfl, rfl⟩
    go_wp2
    go_ret
    exact ⟨(show Ending.returned (.int .i64 (wrap64 (a + b))) = _ from by rw [hwr]), rfl⟩
def sk : ByteArray := ⟨#[107]⟩
/-- The row behind some hits. -/
def sumL (s u : Int) : List S98 := if s = 0 then [] else [⟨sk, s, u⟩]
theorem nadd_zero (h : Int) : nadd 0 h = hold h := by
  have := hold_rng h
  unfold nadd
  rw [if_neg (by rw [show hold 0 = 0 from by decide]; omega), show hold 0 = 0 from by decide]; omega
theorem nadd_pos (s h : Int) (hh : 1 ≤ h) (hs : 0 ≤ s) : nadd s h ≠ 0 ∧ 0 ≤ nadd s h := by
  have h1 : 1 ≤ hold h := by unfold hold; omega
  have h2 : 0 ≤ hold s := (hold_rng s).1
  unfold nadd
  split <;> omega
theorem live_one {s u : Int} (now : Int) : liveC [⟨sk, s, u⟩] sk now = decide (now < u) := live_mem (L := [⟨sk, s, u⟩]) (c := ⟨sk, s, u⟩) (by unfold kvC; simp) (by simp) now
theorem live_no (k : ByteArray) (now : Int) : liveC [] k now = false := by
  unfold liveC
  rw [show Wh.hasK (kvC []) k = false from decide_eq_false (fun ⟨c, hc, _⟩ => by cases hc)]; rfl
theorem peek_one {s u : Int} (now : Int) : peekC [⟨sk, s, u⟩] sk now = if now < u then s else 0 := by
  unfold peekC
  rw [live_one]
  by_cases h : now < u
  · rw [decide_eq_true h, if_pos rfl, if_pos h]; rfl
  · rw [decide_eq_false h, if_neg (by decide), if_neg h]
theorem peek_sum (s u now : Int) : peekC (sumL s u) sk now = if now < u then s else 0 := by
  unfold sumL
  by_cases h : s = 0
  · rw [if_pos h, h]
    have : peekC [] sk now = 0 := by unfold peekC; rw [live_no, if_neg (by decide)]
    rw [this]; split <;> rfl
  · rw [if_neg h]; exact peek_one now
section
variable {w0 w : World} {cb : Nat} {s u now : Int}
theorem cs_bad (h : CA w0 w cb 1 (sumL s u)) (x : Int) (hx : x < 1) : Calls Try.prog 41 #[.pointer (some ⟨cb, 0, none⟩), .string ⟨#[107]⟩, .int .i64 x, .int .i64 u, .int .i64 now] w fun e w' => e = .returned (.tuple #[.int .i64 0, .int .i64 1]) ∧ CA w0 w' cb 1 (sumL s u) := by
  refine (h.add sk (by decide) x u now).mono ?_
  rintro e w' ⟨n, code, L', a, h1, h2⟩
  obtain ⟨rfl, rfl, rfl⟩ := h2.bad (.inl hx)
  exact ⟨a, h1⟩
theorem cs_good (h : CA w0 w cb 1 (sumL s u)) (x : Int) (hx : 1 ≤ x) (hu : now < u) (hs : 0 ≤ s) : Calls Try.prog 41 #[.pointer (some ⟨cb, 0, none⟩), .string ⟨#[107]⟩, .int .i64 x, .int .i64 u, .int .i64 now] w fun e w' => e = .returned (.tuple #[.int .i64 (nadd s x), .int .i64 0]) ∧ CA w0 w' cb 1 (sumL (nadd s x) u) := by
  have hp := nadd_pos s x hx hs
  refine (h.add sk (by decide) x u now).mono ?_
  rintro e w' ⟨n, code, L', a, h1, h2⟩
  have e2 : sumL (nadd s x) u = [⟨sk, nadd s x, u⟩] := if_neg hp.1
  rw [e2]
  by_cases h0 : s = 0
  · subst h0
    have e1 : sumL 0 u = [] := if_pos rfl
    rw [e1] at h2
    obtain ⟨rfl, rfl, rfl⟩ := h2.new hx hu (live_no _ _) (by show (0 : Nat) < 1; omega)
    rw [nadd_zero]
    exact ⟨a, h1⟩
  · have e1 : sumL s u = [⟨sk, s, u⟩] := if_neg h0
    rw [e1] at h2
    obtain ⟨rfl, rfl, rfl⟩ := h2.live hx hu (by rw [live_one]; exact decide_eq_true hu)
    rw [peek_one, if_pos hu] at a h1
    exact ⟨a, h1⟩
theorem cs_peek (h : CA w0 w cb 1 (sumL s u)) (t r : Int) (hr : r = if t < u then s else 0) : Calls Try.prog 43 #[.pointer (some ⟨cb, 0, none⟩), .string ⟨#[107]⟩, .int .i64 t] w fun e w' => e = .returned (.int .i64 r) ∧ w = w' := by
  have := h.peek sk (by decide) t
  rw [peek_sum, ← hr] at this
  exact this
theorem cs_live (h : CA w0 w cb 1 (sumL s u)) : Calls Try.prog 44 #[.pointer (some ⟨cb, 0, none⟩), .int .i64 u] w fun e w' => e = .returned (.int .i64 0) ∧ w = w' := by
  have := h.live_n u
  have e : liveN (sumL s u) u = 0 := by
    unfold liveN sumL
    split
    · rfl
    · rw [List.filter_cons, if_neg (by simp)]; rfl
  rw [e] at this
  exact this
end
def intC (l : List Int) (i : Nat) : Int := l.getD i 0
theorem ints_at {w : World} {A : Option Addr} {l : List Int} (h : Kd.C (Kd.int .i64) w A l.length l) (i : Nat) (hi : i < l.length) : ∃ ad, A = some ad ∧ w.cell? (ad.add i) = some (.int .i64 (intC l i)) := by
  obtain ⟨ad, c, e, _, hK, hc0⟩ := Kd.C_get h (0 : Int) (i : Int) (by omega) (by omega)
  have hK' : c = [.int .i64 (l.getD (i : Int).toNat 0)] := hK
  subst hK'
  refine ⟨ad, e, ?_⟩
  have := hc0 0 _ rfl
  rw [Int.toNat_natCast] at this
  have e1 : i * (Kd.int .i64).sz + 0 = i := by show i * 1 + 0 = i; omega
  rw [e1] at this
  exact this
theorem cs_out (A : Option Addr) (c : Nat) (n : Nat) (u now : Int) (w : World) (h : 100 < n ∨ u ≤ now) : Calls Try.prog 8 #[.slice A n c, .int .i64 u, .int .i64 now] w fun e w' => e = .returned (.bool true) ∧ Frm (fun _ => False) w w' := by
  by_cases a1 : 100 < n
  · have d1 : decide ((100 : Int) < (n : Int)) = true := decide_eq_true (by omega)
    have d2 : decide (100 < n) = true := decide_eq_true a1
    clear h a1
    go_enter Try.func8, Try.ntmps8
    go_wp2_with fail
    (with_reducible refine (cawake_any _).mono ?_); rintro e w3 ⟨rfl, hf3⟩
    have HF3 := Aside0.mk hf3
    clear hf3
    go_wp2
    go_ret
    exact ⟨rfl, HF3.out⟩
  have d1 : decide ((100 : Int) < (n : Int)) = false := decide_eq_false (by omega)
  have d2 : decide (100 < n) = false := decide_eq_false a1
  have d3 : decide (u ≤ now) = true := decide_eq_true (by rcases h with h | h; exact absurd h a1; exact h)
  clear h a1
  go_enter Try.func8, Try.ntmps8
  go_wp2_with fail
  (with_reducible refine (cawake_any _).mono ?_); rintro e w3 ⟨rfl, hf3⟩
  have HF3 := Aside0.mk hf3
  clear hf3
  go_wp2
  go_ret
  exact ⟨rfl, HF3.out⟩
set_option maxHeartbeats 4000000 in
theorem cs_walk (A : Option Addr) (c : Nat) (l : List Int) (u now : Int) (w : World) (hr : Kd.C (Kd.int .i64) w A l.length l) (hc : l.length ≤ c) (h100 : l.length ≤ 100) (hu : now < u) (hn : -9223372036854775808 ≤ now) (hu2 : u < 9223372036854775808) :
    Calls Try.prog 8 #[.slice A l.length c, .int .i64 u, .int .i64 now] w fun e w' => e = .returned (.bool true) ∧ Frm (fun _ => False) w w' := by
  have HR := Aside0.mk hr
  have HU := Lib.hid hu
  have d1 : decide ((100 : Int) < (l.length : Int)) = false := decide_eq_false (by omega)
  have d2 : decide (100 < l.length) = false := decide_eq_false (by omega)
  have d3 : decide (u ≤ now) = false := decide_eq_false (by omega)
  clear hr
  go_enter Try.func8, Try.ntmps8
  go_wp2_with fail
  (with_reducible refine (cnew1 _).mono ?_); rintro e w1 ⟨cb, rfl, h1⟩
  have H1 := Aside0.mk h1
  clear h1
  go_wp2
  go_loopw [9, 10] (fun v9 v10 wr => ∃ (i : Nat) (s : Int), v10 = .int .i64 (i : Nat) ∧ v9 = .int .i64 s ∧ i ≤ l.length ∧ Aside0 (CA w wr cb 1 (sumL s u) ∧ 0 ≤ s)) (fun _ v10 _ => l.length - (intOf v10).toNat)
  case atStart => exact ⟨0, 0, rfl, rfl, Nat.zero_le _, ⟨H1.out, by omega⟩⟩
  case round =>
    clear H1
    obtain ⟨i, s, rfl, rfl, hi, HI⟩ := hrel
    by_cases hlt : i < l.length
    · obtain ⟨ad, rfl, q0⟩ := ints_at HR.out i hlt
      obtain ⟨x, hx⟩ : ∃ x, x = intC l i := ⟨_, rfl⟩
      rw [← hx] at q0
      have Q0 := Lib.hid q0
      have g0 := HI.out.1.cell q0
      clear hx q0
      by_cases hx : x < 1
      · have e1 : decide (x < 1) = true := decide_eq_true hx
        have HX := Lib.hid hx
        clear hx
        go_wp2_with fail
        (with_reducible refine (cs_bad (now := now) HI.out.1 x HX.out).mono ?_); rintro e w3 ⟨rfl, h3⟩
        have H3 := Aside0.mk h3
        have g1 := h3.cell Q0.out
        clear h3 g0
        go_wp2
        go_roundw
        case rel => exact ⟨i + 1, s, by go_num, rfl, by omega, ⟨H3.out, HI.out.2⟩⟩
        case measure => simp [intOf]; omega
      · have e1 : decide (x < 1) = false := decide_eq_false hx
        have HX := Lib.hid (show 1 ≤ x by omega)
        clear hx
        go_wp2_with fail
        (with_reducible refine (cs_good (now := now) HI.out.1 x HX.out HU.out HI.out.2).mono ?_); rintro e w3 ⟨rfl, h3⟩
        have H3 := Aside0.mk h3
        have g1 := h3.cell Q0.out
        clear h3 g0
        obtain ⟨s2, hs2⟩ : ∃ s2, s2 = nadd s x := ⟨_, rfl⟩
        have CR : ∀ w, Calls Try.prog 42 #[.int .i64 s, .int .i64 x] w fun e w' => e = .returned (.int .i64 s2) ∧ w = w' := fun w => by rw [hs2]; exact radd_any s x w
        have CR := Lib.hid CR
        rw [← hs2] at H3 ⊢
        have HS2 := Lib.hid (show 0 ≤ s2 by rw [hs2]; exact (nadd_pos s x HX.out HI.out.2).2)
        have e2 : (s2 != s2) = false := by simp
        clear hs2
        go_wp2_with fail
        (with_reducible refine (CR.out _).mono ?_); rintro e w4 ⟨rfl, rfl⟩
        go_wp2
        go_roundw
        case rel => exact ⟨i + 1, s2, by go_num, rfl, by omega, ⟨H3.out, HS2.out⟩⟩
        case measure => simp [intOf]; omega
    · obtain rfl : i = l.length := by omega
      have l1 : decide ((l.length : Int) < (l.length : Int)) = false := decide_eq_false (by omega)
      have e2 : (s == s) = true := by simp
      have hw1 : IntKind.i64.wrap (u - 1) = u - 1 := by rw [IntKind.wrap_i64]; omega
      have hw2 : wrap64 (u - 1) = u - 1 := by unfold wrap64; omega
      have C1 := Aside0.mk (cs_peek HI.out.1 now s (by rw [if_pos HU.out]))
      have C2 := Aside0.mk (cs_peek HI.out.1 (u - 1) s (by rw [if_pos (by omega)]))
      have C3 := Aside0.mk (cs_peek HI.out.1 u 0 (by rw [if_neg (by omega)]))
      have C4 := Aside0.mk (cs_live HI.out.1)
      go_wp2_with fail
      (with_reducible refine C1.out.mono ?_); rintro e w3 ⟨rfl, rfl⟩
      go_wp2_with fail
      (with_reducible refine C2.out.mono ?_); rintro e w3 ⟨rfl, rfl⟩
      go_wp2_with fail
      (with_reducible refine C3.out.mono ?_); rintro e w3 ⟨rfl, rfl⟩
      go_wp2_with fail
      (with_reducible refine C4.out.mono ?_); rintro e w3 ⟨rfl, rfl⟩
      go_wp2_with fail
      (with_reducible refine (cawake_any _).mono ?_); rintro e w5 ⟨rfl, hf5⟩
      have HF5 := Aside0.mk (HI.out.1.f.trans hf5)
      clear hf5
      go_wp2
      go_ret
      exact ⟨rfl, HF5.out⟩
theorem rng_of {x : Int} (h : (Lit.int .i64 x).wf = true) : -9223372036854775808 ≤ x ∧ x < 9223372036854775808 := by
  have h1 : IntKind.i64.min ≤ x ∧ x ≤ 9223372036854775807 := by simpa [Lit.wf, IntKind.wrap_i64, IntKind.signed, IntKind.bits] using h
  rw [show IntKind.i64.min = -9223372036854775808 from by decide] at h1
  omega
theorem cacheSums_calls (A : Option Addr) (c : Nat) (l : List Int) (u now : Int) (w : World) (hr : Kd.C (Kd.int .i64) w A l.length l) (hc : l.length ≤ c) (hu : (Lit.int .i64 u).wf = true) (hn : (Lit.int .i64 now).wf = true) :
    Calls Try.prog 8 #[.slice A l.length c, .int .i64 u, .int .i64 now] w fun e w' => e = .returned (.bool true) ∧ Below w.heap.size w w' := by
  have fin : ∀ {e : Ending} {w' : World}, (e = .returned (.bool true) ∧ Frm (fun _ => False) w w') → (e = .returned (.bool true) ∧ Below w.heap.size w w') := fun h => ⟨h.1, h.2.to_below⟩
  by_cases h : 100 < l.length ∨ u ≤ now
  · exact (cs_out A c l.length u now w h).mono fun e w' h => fin h
  · have h1 := rng_of hn
    have h2 := rng_of hu
    exact (cs_walk A c l u now w hr hc (by omega) (by omega) h1.1 h2.2).mono fun e w' h => fin h
end Go.Proofs.Ytjgoddieamphpaa.Ca
