/- A cache: part of the proof. -/
import Derived.Test.YtjgoddieamphpaaOCE
namespace Go.Proofs.Ytjgoddieamphpaa.Ca
open Go.RowKit Go.Sort Go.Proofs.YtjgoddieamphpaaW.PrintWords Go.Proofs.YtjgoddieamphpaaW.PrintLast Probe Go.Proofs.Ytjgoddieamphpaa.Obj Go.Proofs.Ytjgoddieamphpaa.PProbeActs
set_option maxRecDepth 100000
set_option linter.unusedVariables false
theorem Added.bad {L : List S98} {most : Nat} {k : ByteArray} {hits u now n code : Int} {L' : List S98} (h : Added L most k hits u now n code L') (hb : hits < 1 ∨ u ≤ now) : n = 0 ∧ code = 1 ∧ L' = L := by
  rcases h with ⟨_, a, b, c⟩ | ⟨h1, h2, _⟩
  · exact ⟨a, b, c⟩
  · omega
theorem Added.live {L : List S98} {most : Nat} {k : ByteArray} {hits u now n code : Int} {L' : List S98} (h : Added L most k hits u now n code L') (h1 : 1 ≤ hits) (h2 : now < u) (hl : liveC L k now = true) : n = nadd (peekC L k now) hits ∧ code = 0 ∧ L' = wo L [k] ++ [⟨k, n, u⟩] := by
  rcases h with ⟨hb, _⟩ | ⟨_, _, ⟨_, a⟩ | ⟨e, _⟩⟩
  · omega
  · exact a
  · rw [hl] at e; cases e
theorem Added.full {L : List S98} {most : Nat} {k : ByteArray} {hits u now n code : Int} {L' : List S98} (h : Added L most k hits u now n code L') (h1 : 1 ≤ hits) (h2 : now < u) (hl : liveC L k now = false) (hf : most ≤ liveN L now) : n = 0 ∧ code = 6 ∧ L' = L := by
  rcases h with ⟨hb, _⟩ | ⟨_, _, ⟨e, _⟩ | ⟨_, ⟨_, a⟩ | ⟨e, _⟩⟩⟩
  · omega
  · rw [hl] at e; cases e
  · exact a
  · omega
theorem Added.new {L : List S98} {most : Nat} {k : ByteArray} {hits u now n code : Int} {L' : List S98} (h : Added L most k hits u now n code L') (h1 : 1 ≤ hits) (h2 : now < u) (hl : liveC L k now = false) (hf : liveN L now < most) : n = hold hits ∧ code = 0 ∧ L' = wo (if hasB L k = false ∧ most ≤ L.length then L.filter fun c => decide (now < c.f2) else L) [k] ++ [⟨k, n, u⟩] := by
  rcases h with ⟨hb, _⟩ | ⟨_, _, ⟨e, _⟩ | ⟨_, ⟨e, _⟩ | ⟨_, a⟩⟩⟩
  · omega
  · rw [hl] at e; cases e
  · omega
  · exact a
/-- A cache of one. -/
def CA (w0 w : World) (cb most : Nat) (L : List S98) : Prop := ∃ pt b pw Sw, CC w0 w cb pt b pw Sw most L
section
variable {w0 w : World} {cb most : Nat} {L : List S98}
theorem CA.add (h : CA w0 w cb most L) (k : ByteArray) (hs : k.size ≤ 1000) (hits u now : Int) : Calls Try.prog 41 #[.pointer (some ⟨cb, 0, none⟩), .string k, .int .i64 hits, .int .i64 u, .int .i64 now] w fun e w' => ∃ n code L', e = .returned (.tuple #[.int .i64 n, .int .i64 code]) ∧ CA w0 w' cb most L' ∧ Added L most k hits u now n code L' := by
  obtain ⟨pt, b, pw, Sw, h⟩ := h
  refine (h.add k hs hits u now).mono ?_
  rintro e w' ⟨n, code, S', L', a, h1, h2⟩
  exact ⟨n, code, L', a, ⟨pt, b, pw, S', h1⟩, h2⟩
theorem CA.peek (h : CA w0 w cb most L) (k : ByteArray) (hs : k.size ≤ 1000) (now : Int) : Calls Try.prog 43 #[.pointer (some ⟨cb, 0, none⟩), .string k, .int .i64 now] w fun e w' => e = .returned (.int .i64 (peekC L k now)) ∧ w = w' := by
  obtain ⟨pt, b, pw, Sw, h⟩ := h
  exact h.peek k hs now
theorem CA.live_n (h : CA w0 w cb most L) (now : Int) : Calls Try.prog 44 #[.pointer (some ⟨cb, 0, none⟩), .int .i64 now] w fun e w' => e = .returned (.int .i64 (liveN L now : Nat)) ∧ w = w' := by
  obtain ⟨pt, b, pw, Sw, h⟩ := h
  exact h.live_n now
theorem CA.held (h : CA w0 w cb most L) : Calls Try.prog 46 #[.pointer (some ⟨cb, 0, none⟩)] w fun e w' => e = .returned (.int .i64 (L.length : Nat)) ∧ w = w' := by
  obtain ⟨pt, b, pw, Sw, h⟩ := h
  exact h.held
theorem CA.most_ (h : CA w0 w cb most L) : Calls Try.prog 61 #[.pointer (some ⟨cb, 0, none⟩)] w fun e w' => e = .returned (.int .i64 (most : Nat)) ∧ w = w' := by
  obtain ⟨pt, b, pw, Sw, h⟩ := h
  exact h.most_
theorem CA.f (h : CA w0 w cb most L) : Frm (fun _ => False) w0 w := by
  obtain ⟨pt, b, pw, Sw, h⟩ := h
  exact h.f
theorem CA.nd (h : CA w0 w cb most L) : ((kvC L).map (·.1)).Nodup := by
  obtain ⟨pt, b, pw, Sw, h⟩ := h
  exact h.nd
theorem CA.len (h : CA w0 w cb most L) : L.length ≤ most := by
  obtain ⟨pt, b, pw, Sw, h⟩ := h
  exact itl_len h.t
theorem CA.cell (h : CA w0 w cb most L) {a : Addr} {v : Value} (hc : w0.cell? a = some v) : w.cell? a = some v := h.f.cell hc (fun e => e)
end
theorem cnewA (n : Nat) (hn : 1 ≤ n) (hN : n ≤ 4096) (w : World) : Calls Try.prog 40 #[.int .i64 (n : Int)] w fun e w' => ∃ cb, e = .returned (.tuple #[.pointer (some ⟨cb, 0, none⟩), .int .i64 0]) ∧ CA w w' cb n [] := by
  refine (cnew_any n hn hN w).mono ?_
  rintro e w' ⟨cb, pt, b, pw, Sw, a, h⟩
  exact ⟨cb, a, pt, b, pw, Sw, h⟩
theorem cnew1 (w : World) : Calls Try.prog 40 #[.int .i64 1] w fun e w' => ∃ cb, e = .returned (.tuple #[.pointer (some ⟨cb, 0, none⟩), .int .i64 0]) ∧ CA w w' cb 1 [] := cnewA 1 (by omega) (by omega) w
theorem cnew0 (w : World) : Calls Try.prog 40 #[.int .i64 0] w fun e w' => e = .returned (.tuple #[.pointer none, .int .i64 1]) ∧ w = w' := cnew_bad 0 (by omega) w
def sa : ByteArray := ⟨#[97]⟩
def sb : ByteArray := ⟨#[98]⟩
theorem cadd_nil (w : World) : Calls Try.prog 41 #[.pointer none, .string ⟨#[97]⟩, .int .i64 1, .int .i64 2, .int .i64 1] w fun e w' => e = .returned (.tuple #[.int .i64 0, .int .i64 6]) ∧ w = w' := by
  go_enter Try.func41, Try.ntmps41
  go_wp2
  go_ret2
  exact ⟨rfl, rfl⟩
theorem live0 (w : World) : Calls Try.prog 44 #[.pointer none, .int .i64 0] w fun e w' => e = .returned (.int .i64 0) ∧ w = w' := live_nil 0 w
section
variable {w0 w : World} {cb : Nat}
theorem ca1 (h : CA w0 w cb 1 []) : Calls Try.prog 41 #[.pointer (some ⟨cb, 0, none⟩), .string ⟨#[97]⟩, .int .i64 3, .int .i64 5, .int .i64 0] w fun e w' => e = .returned (.tuple #[.int .i64 3, .int .i64 0]) ∧ CA w0 w' cb 1 [⟨sa, 3, 5⟩] := by
  refine (h.add sa (by decide) 3 5 0).mono ?_
  rintro e w' ⟨n, code, L', a, h1, h2⟩
  obtain ⟨rfl, rfl, rfl⟩ := h2.new (by decide) (by decide) (by decide) (by decide)
  exact ⟨a, h1⟩
theorem ca2 (h : CA w0 w cb 1 [⟨sa, 3, 5⟩]) : Calls Try.prog 41 #[.pointer (some ⟨cb, 0, none⟩), .string ⟨#[98]⟩, .int .i64 1, .int .i64 5, .int .i64 0] w fun e w' => e = .returned (.tuple #[.int .i64 0, .int .i64 6]) ∧ CA w0 w' cb 1 [⟨sa, 3, 5⟩] := by
  refine (h.add sb (by decide) 1 5 0).mono ?_
  rintro e w' ⟨n, code, L', a, h1, h2⟩
  obtain ⟨rfl, rfl, rfl⟩ := h2.full (by decide) (by decide) (by decide) (by decide)
  exact ⟨a, h1⟩
theorem ca3 (h : CA w0 w cb 1 [⟨sa, 3, 5⟩]) : Calls Try.prog 41 #[.pointer (some ⟨cb, 0, none⟩), .string ⟨#[97]⟩, .int .i64 2, .int .i64 5, .int .i64 4] w fun e w' => e = .returned (.tuple #[.int .i64 5, .int .i64 0]) ∧ CA w0 w' cb 1 [⟨sa, 5, 5⟩] := by
  refine (h.add sa (by decide) 2 5 4).mono ?_
  rintro e w' ⟨n, code, L', a, h1, h2⟩
  obtain ⟨rfl, rfl, rfl⟩ := h2.live (by decide) (by decide) (by decide)
  have e1 : nadd (peekC [⟨sa, 3, 5⟩] sa 4) 2 = 5 := by decide
  have e2 : wo [(⟨sa, 3, 5⟩ : S98)] [sa] = [] := rfl
  rw [e1] at a h1
  rw [e2] at h1
  exact ⟨a, h1⟩
theorem ca4 (h : CA w0 w cb 1 [⟨sa, 5, 5⟩]) : Calls Try.prog 41 #[.pointer (some ⟨cb, 0, none⟩), .string ⟨#[98]⟩, .int .i64 1, .int .i64 9, .int .i64 5] w fun e w' => e = .returned (.tuple #[.int .i64 1, .int .i64 0]) ∧ CA w0 w' cb 1 [⟨sb, 1, 9⟩] := by
  refine (h.add sb (by decide) 1 9 5).mono ?_
  rintro e w' ⟨n, code, L', a, h1, h2⟩
  obtain ⟨rfl, rfl, rfl⟩ := h2.new (by decide) (by decide) (by decide) (by decide)
  rw [if_pos ⟨by decide, by decide⟩] at h1
  exact ⟨a, h1⟩
theorem ca5 (h : CA w0 w cb 1 [⟨sb, 1, 9⟩]) : Calls Try.prog 41 #[.pointer (some ⟨cb, 0, none⟩), .string ⟨#[98]⟩, .int .i64 0, .int .i64 9, .int .i64 5] w fun e w' => e = .returned (.tuple #[.int .i64 0, .int .i64 1]) ∧ CA w0 w' cb 1 [⟨sb, 1, 9⟩] := by
  refine (h.add sb (by decide) 0 9 5).mono ?_
  rintro e w' ⟨n, code, L', a, h1, h2⟩
  obtain ⟨rfl, rfl, rfl⟩ := h2.bad (.inl (by decide))
  exact ⟨a, h1⟩
theorem ca6 (h : CA w0 w cb 1 [⟨sb, 1, 9⟩]) : Calls Try.prog 43 #[.pointer (some ⟨cb, 0, none⟩), .string ⟨#[97]⟩, .int .i64 4] w fun e w' => e = .returned (.int .i64 0) ∧ w = w' := by
  have := h.peek sa (by decide) 4
  rw [show peekC [⟨sb, 1, 9⟩] sa 4 = 0 from by decide] at this
  exact this
theorem ca7 (h : CA w0 w cb 1 [⟨sb, 1, 9⟩]) : Calls Try.prog 43 #[.pointer (some ⟨cb, 0, none⟩), .string ⟨#[98]⟩, .int .i64 8] w fun e w' => e = .returned (.int .i64 1) ∧ w = w' := by
  have := h.peek sb (by decide) 8
  rw [show peekC [⟨sb, 1, 9⟩] sb 8 = 1 from by decide] at this
  exact this
theorem ca8 (h : CA w0 w cb 1 [⟨sb, 1, 9⟩]) : Calls Try.prog 44 #[.pointer (some ⟨cb, 0, none⟩), .int .i64 9] w fun e w' => e = .returned (.int .i64 0) ∧ w = w' := h.live_n 9
theorem ca9 (h : CA w0 w cb 1 [⟨sb, 1, 9⟩]) : Calls Try.prog 46 #[.pointer (some ⟨cb, 0, none⟩)] w fun e w' => e = .returned (.int .i64 1) ∧ w = w' := h.held
theorem ca10 (h : CA w0 w cb 1 [⟨sb, 1, 9⟩]) : Calls Try.prog 61 #[.pointer (some ⟨cb, 0, none⟩)] w fun e w' => e = .returned (.int .i64 1) ∧ w = w' := h.most_
end
set_option maxHeartbeats 4000000 in
theorem cawake_any (w : World) : Calls Try.prog 39 #[] w fun e w' => e = .returned (.bool true) ∧ Frm (fun _ => False) w w' := by
  go_enter Try.func39, Try.ntmps39
  go_wp2_with fail
  (with_reducible refine (cnew1 _).mono ?_); rintro e w1 ⟨cb, rfl, h1⟩
  have H1 := Aside0.mk h1
  clear h1
  go_wp2_with fail
  (with_reducible refine (cnew0 _).mono ?_); rintro e w2 ⟨rfl, rfl⟩
  go_wp2_with fail
  (with_reducible refine (ca1 H1.out).mono ?_); rintro e w2 ⟨rfl, h2⟩
  have H2 := Aside0.mk h2
  clear h2 H1
  go_wp2_with fail
  (with_reducible refine (ca2 H2.out).mono ?_); rintro e w3 ⟨rfl, h3⟩
  have H3 := Aside0.mk h3
  clear h3 H2
  go_wp2_with fail
  (with_reducible refine (ca3 H3.out).mono ?_); rintro e w4 ⟨rfl, h4⟩
  have H4 := Aside0.mk h4
  clear h4 H3
  go_wp2_with fail
  (with_reducible refine (ca4 H4.out).mono ?_); rintro e w5 ⟨rfl, h5⟩
  have H5 := Aside0.mk h5
  clear h5 H4
  go_wp2_with fail
  (with_reducible refine (ca5 H5.out).mono ?_); rintro e w6 ⟨rfl, h6⟩
  have H6 := Aside0.mk h6
  clear h6 H5
  go_wp2_with fail
  (with_reducible refine (cadd_nil _).mono ?_); rintro e w7 ⟨rfl, rfl⟩
  go_upto_region 12 with (fail)
  simp only [List.append]
  go_wp2_with fail
  (with_reducible refine (ca6 H6.out).mono ?_); rintro e w7 ⟨rfl, rfl⟩
  go_wp2_with fail
  (with_reducible refine (ca7 H6.out).mono ?_); rintro e w7 ⟨rfl, rfl⟩
  go_wp2_with fail
  (with_reducible refine (ca8 H6.out).mono ?_); rintro e w7 ⟨rfl, rfl⟩
  go_wp2_with fail
  (with_reducible refine (ca9 H6.out).mono ?_); rintro e w7 ⟨rfl, rfl⟩
  go_wp2_with fail
  (with_reducible refine (ca10 H6.out).mono ?_); rintro e w7 ⟨rfl, rfl⟩
  go_wp2_with fail
  (with_reducible refine (live0 _).mono ?_); rintro e w7 ⟨rfl, rfl⟩
  go_wp2
  go_ret
  exact ⟨rfl, H6.out.f⟩
end Go.Proofs.Ytjgoddieamphpaa.Ca
