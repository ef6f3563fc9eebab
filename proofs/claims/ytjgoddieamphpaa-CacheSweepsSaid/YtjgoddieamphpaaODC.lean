/- A cache: part of the proof. -/
import Derived.Test.YtjgoddieamphpaaODB
namespace Go.Proofs.Ytjgoddieamphpaa.Ca
open Go.RowKit Go.Sort Go.Proofs.YtjgoddieamphpaaW.PrintWords Go.Proofs.YtjgoddieamphpaaW.PrintLast Probe Go.Proofs.Ytjgoddieamphpaa.Obj Go.Proofs.Ytjgoddieamphpaa.PProbeActs
set_option maxRecDepth 100000
set_option linter.unusedVariables false
theorem rkpeek {w : World} {m most : Nat} {L : List S98} {v : Value} (h : RK w m most L v) (hn : (L.map (·.f0)).Nodup) (k : ByteArray) (now : Int) :
    Calls Try.prog 56 #[.pointer (some ⟨m, 0, none⟩), .string k, .int .i64 now] w fun e w' => e = .returned (.int .i64 (peekC L k now)) ∧ ∃ n, w' = w.drewN n := by
  obtain ⟨A, c, rfl, hl, hr⟩ := Kd.R_reads h.row
  have hc1 := h.c1
  have hN := Lib.hid (show L.length ≤ 1000000 by have := h.few; omega)
  have hr := Aside0.mk hr
  have hl := Lib.hid hl
  rw [peek_idx hn]
  cases hi : idx L k with
  | none =>
    have e1 := Lib.hid (show fnd L k = -1 by unfold fnd; rw [hi])
    clear hi hn
    go_enter Try.func56, Try.ntmps56
    go_wp2_with fail
    (with_reducible refine (find_any L k hN.out A c _ hr.out hl.out).mono ?_); rintro e w' ⟨rfl, n, rfl⟩
    rw [e1.out]
    go_wp2
    go_ret
    exact ⟨rfl, n, rfl⟩
  | some i =>
    have e1 := Lib.hid (show fnd L k = i by unfold fnd; rw [hi])
    obtain ⟨hlt, _⟩ := idx_some hi
    obtain ⟨ad, rfl, q0, q1, q2⟩ := at_T98 hr.out (i : Int) (by omega) (by omega)
    have g1 : decide ((i : Int) < 0) = false := decide_eq_false (by omega)
    have er : rd_T98 L (i : Int) = L.getD i z98 := by unfold rd_T98; rw [Int.toNat_natCast]
    rw [er, Int.toNat_natCast] at q0 q1 q2
    show Calls Try.prog 56 #[.pointer (some ⟨m, 0, none⟩), .string k, .int .i64 now] w fun e w' => e = .returned (.int .i64 (if now < (L.getD i z98).f2 then (L.getD i z98).f1 else 0)) ∧ ∃ n, w' = w.drewN n
    generalize (L.getD i z98).f1 = n1 at *
    generalize (L.getD i z98).f2 = t1 at *
    clear hi er hn
    by_cases h3 : now < t1
    · have d1 : decide (t1 ≤ now) = false := decide_eq_false (by omega)
      rw [if_pos h3]
      clear h3
      go_enter Try.func56, Try.ntmps56
      go_wp2_with fail
      (with_reducible refine (find_any L k hN.out _ c _ hr.out hl.out).mono ?_); rintro e w' ⟨rfl, n, rfl⟩
      rw [e1.out]
      go_wp2
      go_ret
      exact ⟨rfl, n, rfl⟩
    · have d1 : decide (t1 ≤ now) = true := decide_eq_true (by omega)
      rw [if_neg h3]
      clear h3
      go_enter Try.func56, Try.ntmps56
      go_wp2_with fail
      (with_reducible refine (find_any L k hN.out _ c _ hr.out hl.out).mono ?_); rintro e w' ⟨rfl, n, rfl⟩
      rw [e1.out]
      go_wp2
      go_ret
      exact ⟨rfl, n, rfl⟩
theorem liveN_take (L : List S98) (now : Int) (i : Nat) (hi : i < L.length) : liveN (L.take (i + 1)) now = liveN (L.take i) now + if now < (L.getD i z98).f2 then 1 else 0 := by
  have e : L.getD i z98 = L[i] := by rw [List.getD_eq_getElem?_getD, List.getElem?_eq_getElem hi]; rfl
  unfold liveN
  rw [List.take_add_one, List.getElem?_eq_getElem hi, List.filter_append, List.length_append, e]
  congr 1
  by_cases h : now < L[i].f2
  · rw [if_pos h]; simp [h]
  · rw [if_neg h]; simp [h]
theorem rklive {w : World} {m most : Nat} {L : List S98} {v : Value} (h : RK w m most L v) (now : Int) :
    Calls Try.prog 57 #[.pointer (some ⟨m, 0, none⟩), .int .i64 now] w fun e w' => e = .returned (.int .i64 (liveN L now : Nat)) ∧ ∃ n, w' = w.drewN n := by
  obtain ⟨A, c, rfl, hl, hr⟩ := Kd.R_reads h.row
  have hc1 := h.c1
  have hN := h.few
  have hr := Aside0.mk hr
  have hl := Lib.hid hl
  clear h
  go_enter Try.func57, Try.ntmps57
  go_wp2
  go_loopw [5, 6] (fun v4 v5 wr => ∃ (i n : Nat), v5 = .int .i64 (i : Nat) ∧ v4 = .int .i64 (liveN (L.take i) now : Nat) ∧ i ≤ L.length ∧ wr = w.drewN n) (fun _ v5 _ => L.length - (intOf v5).toNat)
  case atStart => exact ⟨0, 0, rfl, rfl, Nat.zero_le _, rfl⟩
  case round =>
    obtain ⟨i, n, rfl, rfl, hi, rfl⟩ := hrel
    have hc1 := c_drewN hc1 n
    by_cases hlt : i < L.length
    · obtain ⟨ad, rfl, q0, q1, q2⟩ := at_T98 hr.out (i : Int) (by omega) (by omega)
      have z1 : decide ((i : Int) < (L.length : Int)) = true := decide_eq_true (by omega)
      have z2 : decide (i < L.length) = true := decide_eq_true hlt
      have er : rd_T98 L (i : Int) = L.getD i z98 := by unfold rd_T98; rw [Int.toNat_natCast]
      rw [er, Int.toNat_natCast] at q0 q1 q2
      have hcs := liveN_take L now i hlt
      have hcl : liveN (L.take i) now ≤ i := Nat.le_trans (liveN_le _ _) (List.length_take_le _ _)
      generalize (L.getD i z98).f2 = t1 at *
      have q2 := c_drewN q2 n
      have HCS := Lib.hid hcs
      clear hcs q0 q1 er
      by_cases h3 : now < t1
      · have d1 : decide (now < t1) = true := decide_eq_true h3
        rw [if_pos h3] at HCS
        clear h3
        go_wp2
        refine ⟨⟨i + 1, n, by go_num, by rw [HCS.out]; simp, by omega, rfl⟩, by simp [intOf]; omega⟩
      · have d1 : decide (now < t1) = false := decide_eq_false h3
        rw [if_neg h3] at HCS
        clear h3
        go_wp2
        refine ⟨⟨i + 1, n, by go_num, by rw [HCS.out]; simp, by omega, rfl⟩, by simp [intOf]; omega⟩
    · obtain rfl : i = L.length := by omega
      have z1 : decide ((L.length : Int) < (L.length : Int)) = false := decide_eq_false (by omega)
      have z2 : decide (L.length < L.length) = false := decide_eq_false (by omega)
      have HE := Lib.hid (show liveN (L.take L.length) now = liveN L now by rw [List.take_length])
      go_wp2
      go_ret
      exact ⟨by first | rfl | (rw [HE.out]; rfl), n, rfl⟩
end Go.Proofs.Ytjgoddieamphpaa.Ca
