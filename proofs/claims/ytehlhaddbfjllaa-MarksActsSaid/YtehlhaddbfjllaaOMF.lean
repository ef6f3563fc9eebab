/- Maps of texts to numbers, and what counts in them: a part of the proof. -/
import Derived.Test.YtehlhaddbfjllaaOME
namespace Go.Proofs.Ytehlhaddbfjllaa.Mp
open Go.RowKit Go.Sort Go.Proofs.YtehlhaddbfjllaaW.PrintWords Go.Proofs.YtehlhaddbfjllaaW.PrintLast Go.Maps Go.WideMaps
set_option maxRecDepth 100000
set_option linter.unusedVariables false
attribute [local go_sem ↓] Go.wp_at_zero Go.wp_at_succ
theorem mput_nil (key : ByteArray) (u n : Int) (w : World) : Calls Try.prog 14 #[.pointer none, .string key, .int .i64 u, .int .i64 n] w fun e w' => e = .returned (.tuple #[]) ∧ Frm (fun _ => False) w w' := by
  go_enter Try.func14, Try.ntmps14
  go_wp2
  (try simp only [Exit.inBlock, Exit.then])
  refine bodyPost_ret (results_none rfl _ _ _) rfl ?_
  exact ⟨rfl, (Frm.refl _ w).alloc _⟩
theorem mhas_nil (key : ByteArray) (n : Int) (w : World) : Calls Try.prog 18 #[.pointer none, .string key, .int .i64 n] w fun e w' => e = .returned (.bool false) ∧ w = w' := by
  go_enter Try.func18, Try.ntmps18
  go_wp2
  go_ret
  exact ⟨rfl, rfl⟩
theorem mlen_nil (w : World) : Calls Try.prog 17 #[.pointer none] w fun e w' => e = .returned (.int .i64 0) ∧ w = w' := by
  go_enter Try.func17, Try.ntmps17
  go_wp2
  go_ret
  exact ⟨rfl, rfl⟩
abbrev bA : ByteArray := ⟨#[97]⟩
abbrev bB : ByteArray := ⟨#[98]⟩
abbrev bC : ByteArray := ⟨#[99]⟩
theorem put1 {K' : List KV} (h : putR 1 [] bA 5 0 K') : K' = [(bA, 5)] := by
  rcases h with ⟨h1, _⟩ | ⟨_, _, K1, hg, rfl⟩
  · omega
  · rcases hg with ⟨_, rfl⟩ | ⟨_, h2, _⟩
    · rfl
    · simp at h2
theorem put2 {K' : List KV} (h : putR 1 [(bA, 5)] bB 9 0 K') : K' = [(bB, 9)] := by
  have e1 : onlyK [(bA, 5)] 0 = [(bA, 5)] := by decide
  rcases h with ⟨h1, _⟩ | ⟨_, _, K1, hg, rfl⟩
  · omega
  · rcases hg with ⟨h2, rfl⟩ | ⟨_, _, h3⟩
    · rcases h2 with h2 | h2
      · exact absurd h2 (by decide)
      · simp at h2
    · rw [e1] at h3
      rcases h3 with ⟨h4, _⟩ | ⟨_, f, hf, _, rfl⟩
      · simp at h4
      · have : f = bA := by simpa using hf
        subst this
        have e2 : dropK [(bA, 5)] bA = [] := by decide
        rw [e2]
        rfl
theorem put3 {K' : List KV} (h : putR 1 [(bB, 9)] bC 3 3 K') : K' = [(bB, 9)] := by
  rcases h with ⟨_, rfl⟩ | ⟨h1, _⟩
  · rfl
  · omega
section
variable {w0 w : World} {p mb : Nat}
theorem mw1 (h : MK w0 w p mb 1 []) : Calls Try.prog 14 #[.pointer (some ⟨p, 0, none⟩), .string ⟨#[97]⟩, .int .i64 5, .int .i64 0] w fun e w' => e = .returned (.tuple #[]) ∧ MK w0 w' p mb 1 [(bA, 5)] := by
  refine (h.put bA (by decide) 5 0).mono ?_
  rintro e w' ⟨a, K', h', r, _⟩
  rw [put1 r] at h'
  exact ⟨a, h'⟩
theorem mw2 (h : MK w0 w p mb 1 [(bA, 5)]) : Calls Try.prog 14 #[.pointer (some ⟨p, 0, none⟩), .string ⟨#[98]⟩, .int .i64 9, .int .i64 0] w fun e w' => e = .returned (.tuple #[]) ∧ MK w0 w' p mb 1 [(bB, 9)] := by
  refine (h.put bB (by decide) 9 0).mono ?_
  rintro e w' ⟨a, K', h', r, _⟩
  rw [put2 r] at h'
  exact ⟨a, h'⟩
theorem mw3 (h : MK w0 w p mb 1 [(bB, 9)]) : Calls Try.prog 14 #[.pointer (some ⟨p, 0, none⟩), .string ⟨#[99]⟩, .int .i64 3, .int .i64 3] w fun e w' => e = .returned (.tuple #[]) ∧ MK w0 w' p mb 1 [(bB, 9)] := by
  refine (h.put bC (by decide) 3 3).mono ?_
  rintro e w' ⟨a, K', h', r, _⟩
  rw [put3 r] at h'
  exact ⟨a, h'⟩
theorem mh1 (h : MK w0 w p mb 1 [(bA, 5)]) : Calls Try.prog 18 #[.pointer (some ⟨p, 0, none⟩), .string ⟨#[97]⟩, .int .i64 4] w fun e w' => e = .returned (.bool true) ∧ w = w' := h.has bA (by decide) 4
theorem mh2 (h : MK w0 w p mb 1 [(bA, 5)]) : Calls Try.prog 18 #[.pointer (some ⟨p, 0, none⟩), .string ⟨#[97]⟩, .int .i64 5] w fun e w' => e = .returned (.bool false) ∧ w = w' := h.has bA (by decide) 5
theorem mh3 (h : MK w0 w p mb 1 [(bB, 9)]) : Calls Try.prog 18 #[.pointer (some ⟨p, 0, none⟩), .string ⟨#[98]⟩, .int .i64 0] w fun e w' => e = .returned (.bool true) ∧ w = w' := h.has bB (by decide) 0
theorem mh4 (h : MK w0 w p mb 1 [(bB, 9)]) : Calls Try.prog 18 #[.pointer (some ⟨p, 0, none⟩), .string ⟨#[97]⟩, .int .i64 0] w fun e w' => e = .returned (.bool false) ∧ w = w' := h.has bA (by decide) 0
theorem ml1 (h : MK w0 w p mb 1 [(bB, 9)]) : Calls Try.prog 17 #[.pointer (some ⟨p, 0, none⟩)] w fun e w' => e = .returned (.int .i64 1) ∧ w = w' := h.len
theorem ml0 (h : MK w0 w p mb 1 []) : Calls Try.prog 17 #[.pointer (some ⟨p, 0, none⟩)] w fun e w' => e = .returned (.int .i64 0) ∧ w = w' := h.len
end
theorem mk1_any (w : World) : Calls Try.prog 12 #[.int .i64 1] w fun e w' => ∃ p mb, e = .returned (.pointer (some ⟨p, 0, none⟩)) ∧ MK w w' p mb 1 [] := mnew_any 1 w
set_option maxHeartbeats 4000000 in
theorem mawake_any (w : World) : Calls Try.prog 11 #[] w fun e w' => e = .returned (.bool true) ∧ Frm (fun _ => False) w w' := by
  go_enter Try.func11, Try.ntmps11
  go_wp2_with fail
  (with_reducible refine (mk1_any _).mono ?_); rintro e w1 ⟨p, mb, rfl, h1⟩
  have H1 := Aside0.mk h1
  clear h1
  go_wp2_with fail
  (with_reducible refine (mw1 H1.out).mono ?_); rintro e w2 ⟨rfl, h2⟩
  have H2 := Aside0.mk h2
  clear h2 H1
  go_wp2_with fail
  (with_reducible refine (mh1 H2.out).mono ?_); rintro e w3 ⟨rfl, rfl⟩
  go_wp2_with fail
  (with_reducible refine (mh2 H2.out).mono ?_); rintro e w3 ⟨rfl, rfl⟩
  go_wp2_with fail
  (with_reducible refine (mw2 H2.out).mono ?_); rintro e w3 ⟨rfl, h3⟩
  have H3 := Aside0.mk h3
  clear h3 H2
  go_wp2_with fail
  (with_reducible refine (mh3 H3.out).mono ?_); rintro e w4 ⟨rfl, rfl⟩
  go_wp2_with fail
  (with_reducible refine (mh4 H3.out).mono ?_); rintro e w4 ⟨rfl, rfl⟩
  go_wp2_with fail
  (with_reducible refine (mw3 H3.out).mono ?_); rintro e w4 ⟨rfl, h4⟩
  have H4 := Aside0.mk h4
  clear h4 H3
  go_wp2_with fail
  (with_reducible refine (ml1 H4.out).mono ?_); rintro e w5 ⟨rfl, rfl⟩
  go_wp2_with fail
  (with_reducible refine H4.out.clear.mono ?_); rintro e w5 ⟨rfl, h5, _⟩
  have H5 := Aside0.mk h5
  clear h5 H4
  go_wp2_with fail
  (with_reducible refine (mput_nil _ _ _ _).mono ?_); rintro e w6 ⟨rfl, f6⟩
  have H6 := Aside0.mk (H5.out.movedN f6)
  clear f6 H5
  go_wp2_with fail
  (with_reducible refine (ml0 H6.out).mono ?_); rintro e w7 ⟨rfl, rfl⟩
  go_wp2_with fail
  (with_reducible refine (mhas_nil _ _ _).mono ?_); rintro e w7 ⟨rfl, rfl⟩
  go_wp2_with fail
  (with_reducible refine (mlen_nil _).mono ?_); rintro e w7 ⟨rfl, rfl⟩
  go_wp2
  go_ret
  exact ⟨rfl, H6.out.f⟩
end Go.Proofs.Ytehlhaddbfjllaa.Mp
