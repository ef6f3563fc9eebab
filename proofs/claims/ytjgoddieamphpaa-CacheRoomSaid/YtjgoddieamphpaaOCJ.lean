/- A cache: part of the proof. -/
import Derived.Test.YtjgoddieamphpaaOCI
namespace Go.Proofs.Ytjgoddieamphpaa.Ca
open Go.RowKit Go.Sort Go.Proofs.YtjgoddieamphpaaW.PrintWords Go.Proofs.YtjgoddieamphpaaW.PrintLast Probe Go.Proofs.Ytjgoddieamphpaa.Obj Go.Proofs.Ytjgoddieamphpaa.PProbeActs
set_option maxRecDepth 100000
set_option linter.unusedVariables false
set_option maxHeartbeats 4000000 in
theorem cr_walk (n more : Nat) (w : World) (h1 : 1 ≤ n) (h2 : n ≤ 100) (h3 : more ≤ 50) :
    Calls Try.prog 9 #[.int .i64 (n : Int), .int .i64 (more : Int)] w fun e w' => e = .returned (.bool true) ∧ Frm (fun _ => False) w w' := by
  have d1 : decide ((n : Int) < 1) = false := decide_eq_false (by omega)
  have d2 : decide ((100 : Int) < (n : Int)) = false := decide_eq_false (by omega)
  have d3 : decide ((more : Int) < 0) = false := decide_eq_false (by omega)
  have d4 : decide ((50 : Int) < (more : Int)) = false := decide_eq_false (by omega)
  have d1' : decide (n < 1) = false := decide_eq_false (by omega)
  have d2' : decide (100 < n) = false := decide_eq_false (by omega)
  have d4' : decide (50 < more) = false := decide_eq_false (by omega)
  have H1 := Lib.hid h1
  have H2 := Lib.hid (show n ≤ 4096 by omega)
  have H3 := Lib.hid h3
  go_enter Try.func9, Try.ntmps9
  go_wp2_with fail
  (with_reducible refine (room_new n H1.out H2.out _).mono ?_); rintro e w1 ⟨cb, rfl, h5⟩
  have H5 := Aside0.mk h5
  clear h5
  go_wp2
  go_loopw [7] (fun v7 wr => ∃ r : Nat, v7 = .int .i64 (r : Nat) ∧ r ≤ 2 ∧ Aside0 (if r < 2 then CR w wr cb n r 0 else Frm (fun _ => False) w wr)) (fun v7 _ => 2 - (intOf v7).toNat)
  case atStart => exact ⟨0, rfl, Nat.zero_le _, ⟨H5.out⟩⟩
  case round =>
    clear H5
    obtain ⟨r, rfl, hr, HI⟩ := hrel
    have hr3 : r = 0 ∨ r = 1 ∨ r = 2 := by omega
    rcases hr3 with hr0 | hr0 | hr0
    · subst hr0
      have a1 : decide (((0 : Nat) : Int) < 2) = true := by decide
      clear hr
      go_wp2
      go_loopw [8] (fun v8 wr => ∃ i : Nat, v8 = .int .i64 (i : Nat) ∧ i ≤ n + more ∧ Aside0 (CR w wr cb n 0 (min i n))) (fun v8 _ => n + more - (intOf v8).toNat)
      case atStart => exact ⟨0, rfl, Nat.zero_le _, ⟨by rw [Nat.zero_min]; exact HI.out⟩⟩
      case round =>
        clear HI
        obtain ⟨i, rfl, hi, HI⟩ := hrel
        by_cases hlt : i < n + more
        · have z1 : decide ((i : Int) < (n : Int) + (more : Int)) = true := decide_eq_true (by omega)
          have z2 : decide ((i : Int) < IntKind.i64.wrap ((n : Int) + (more : Int))) = true := decide_eq_true (by rw [IntKind.wrap_i64]; omega)
          have z3 : decide ((i : Int) < wrap64 ((n : Int) + (more : Int))) = true := decide_eq_true (by unfold wrap64; omega)
          have hw0 : IntKind.i64.wrap ((i : Int) + 0) = ((i + 0 : Nat) : Int) := by rw [IntKind.wrap_i64]; omega
          have hw1 : wrap64 ((i : Int) + 0) = ((i + 0 : Nat) : Int) := by unfold wrap64; omega
          have CD : Aside0 (∀ w, Calls Try.prog 45 #[.int .i64 (i : Int)] w fun e w' => e = .returned (.string (dg (i + 0))) ∧ Frm (fun _ => False) w w') := ⟨dig_any (i + 0) (by omega)⟩
          have hdg := dg_size (i + 0) (by omega)
          have HKJ := Lib.hid (show (⟨#[107]⟩ : ByteArray) ++ dg (i + 0) = kj (i + 0) from rfl)
          obtain ⟨D, hD⟩ : ∃ D, D = dg (i + 0) := ⟨_, rfl⟩
          rw [← hD] at CD hdg HKJ
          clear hD
          have hsz : D.size + 1 ≤ 9223372036854775807 := by omega
          have hsz1 : 1 + D.size ≤ 9223372036854775807 := by omega
          have hsz2 : decide (1 + D.size ≤ 9223372036854775807) = true := decide_eq_true hsz1
          have hsz3 : (9223372036854775807 < 1 + D.size) = False := eq_false (by omega)
          have hsz4 : ((⟨#[107]⟩ : ByteArray) ++ D).size ≤ 9223372036854775807 := by rw [ByteArray.size_append]; exact hsz1
          clear hdg
          go_wp2_with fail
          (with_reducible refine (CD.out _).mono ?_); rintro e w3 ⟨rfl, hf3⟩
          have HJ := Aside0.mk (HI.out.movedN hf3)
          clear hf3 CD
          by_cases hin : i < n
          · have y1 : decide ((i : Int) < (n : Int)) = true := decide_eq_true (by omega)
            have y1' : decide (i < n) = true := decide_eq_true (by omega)
            have y2 : decide ((n : Int) ≤ (i : Int)) = false := decide_eq_false (by omega)
            have y2' : decide (n ≤ i) = false := decide_eq_false (by omega)
            have HA : Aside0 (Calls Try.prog 41 #[.pointer (some ⟨cb, 0, none⟩), .string ((⟨#[107]⟩ : ByteArray) ++ D), .int .i64 1, .int .i64 10, .int .i64 0] w3 fun e w' => e = .returned (.tuple #[.int .i64 1, .int .i64 0]) ∧ CR w w' cb n 0 (min (i + 1) n)) := by
              refine ⟨?_⟩
              have h := HJ.out
              rw [HKJ.out]
              rw [show min i n = i by omega] at h
              rw [show min (i + 1) n = i + 1 by omega]
              exact h.next hin (by decide) (by omega)
            go_wp2_with fail
            (with_reducible refine HA.out.mono ?_); rintro e w4 ⟨rfl, h4⟩
            have H4 := Aside0.mk h4
            clear h4
            go_wp2
            refine ⟨?_, by simp [intOf]; omega⟩
            (repeat apply Exists.intro)
            exact ⟨⟨i + 1, by go_num, by omega, H4⟩, rfl⟩
          · have y1 : decide ((i : Int) < (n : Int)) = false := decide_eq_false (by omega)
            have y1' : decide (i < n) = false := decide_eq_false (by omega)
            have y2 : decide ((n : Int) ≤ (i : Int)) = true := decide_eq_true (by omega)
            have y2' : decide (n ≤ i) = true := decide_eq_true (by omega)
            have HA : Aside0 (Calls Try.prog 41 #[.pointer (some ⟨cb, 0, none⟩), .string ((⟨#[107]⟩ : ByteArray) ++ D), .int .i64 1, .int .i64 10, .int .i64 0] w3 fun e w' => e = .returned (.tuple #[.int .i64 0, .int .i64 6]) ∧ CR w w' cb n 0 (min (i + 1) n)) := by
              refine ⟨?_⟩
              have h := HJ.out
              rw [HKJ.out]
              rw [show min i n = n by omega] at h
              rw [show min (i + 1) n = n by omega]
              exact h.full rfl (by decide) i (by omega) (by omega)
            go_wp2_with fail
            (with_reducible refine HA.out.mono ?_); rintro e w4 ⟨rfl, h4⟩
            have H4 := Aside0.mk h4
            clear h4
            go_wp2
            refine ⟨?_, by simp [intOf]; omega⟩
            (repeat apply Exists.intro)
            exact ⟨⟨i + 1, by go_num, by omega, H4⟩, rfl⟩
        · obtain rfl : i = n + more := by omega
          have z1 : decide (((n + more : Nat) : Int) < (n : Int) + (more : Int)) = false := decide_eq_false (by omega)
          have z2 : decide (((n + more : Nat) : Int) < IntKind.i64.wrap ((n : Int) + (more : Int))) = false := decide_eq_false (by rw [IntKind.wrap_i64]; omega)
          have z3 : decide (((n : Int) + (more : Int)) < (n : Int) + (more : Int)) = false := decide_eq_false (by omega)
          have z4 : decide (n + more < n + more) = false := decide_eq_false (by omega)
          have HF : Aside0 (CR w wr cb n 0 n) := ⟨by have h := HI.out; rw [show min (n + more) n = n by omega] at h; exact h⟩
          clear HI
          have q1 : ((n : Int) != (n : Int)) = false := by simp
          have q2 : (n != n) = false := by simp
          have C1 : Aside0 (Calls Try.prog 44 #[.pointer (some ⟨cb, 0, none⟩), .int .i64 9] wr fun e w' => e = .returned (.int .i64 (n : Nat)) ∧ wr = w') := ⟨HF.out.live9⟩
          have C2 : Aside0 (Calls Try.prog 44 #[.pointer (some ⟨cb, 0, none⟩), .int .i64 10] wr fun e w' => e = .returned (.int .i64 0) ∧ wr = w') := ⟨HF.out.live10⟩
          go_wp2_with fail
          (with_reducible refine C1.out.mono ?_); rintro e w3 ⟨rfl, rfl⟩
          go_wp2_with fail
          (with_reducible refine C2.out.mono ?_); rintro e w3 ⟨rfl, rfl⟩
          go_wp2_with fail
          (with_reducible refine HF.out.held.mono ?_); rintro e w3 ⟨rfl, rfl⟩
          go_wp2
          go_roundw
          case rel => exact ⟨1, by go_num, by omega, ⟨HF.out.turn⟩⟩
          case measure => simp [intOf]
    · subst hr0
      have a1 : decide (((1 : Nat) : Int) < 2) = true := by decide
      clear hr
      go_wp2
      go_loopw [8] (fun v8 wr => ∃ i : Nat, v8 = .int .i64 (i : Nat) ∧ i ≤ n + more ∧ Aside0 (CR w wr cb n 1 (min i n))) (fun v8 _ => n + more - (intOf v8).toNat)
      case atStart => exact ⟨0, rfl, Nat.zero_le _, ⟨by rw [Nat.zero_min]; exact HI.out⟩⟩
      case round =>
        clear HI
        obtain ⟨i, rfl, hi, HI⟩ := hrel
        by_cases hlt : i < n + more
        · have z1 : decide ((i : Int) < (n : Int) + (more : Int)) = true := decide_eq_true (by omega)
          have z2 : decide ((i : Int) < IntKind.i64.wrap ((n : Int) + (more : Int))) = true := decide_eq_true (by rw [IntKind.wrap_i64]; omega)
          have z3 : decide ((i : Int) < wrap64 ((n : Int) + (more : Int))) = true := decide_eq_true (by unfold wrap64; omega)
          have hw0 : IntKind.i64.wrap ((i : Int) + 1) = ((i + 1 : Nat) : Int) := by rw [IntKind.wrap_i64]; omega
          have hw1 : wrap64 ((i : Int) + 1) = ((i + 1 : Nat) : Int) := by unfold wrap64; omega
          have CD : Aside0 (∀ w, Calls Try.prog 45 #[.int .i64 ((i : Int) + 1)] w fun e w' => e = .returned (.string (dg (i + 1))) ∧ Frm (fun _ => False) w w') := ⟨dig_any (i + 1) (by omega)⟩
          have hdg := dg_size (i + 1) (by omega)
          have HKJ := Lib.hid (show (⟨#[107]⟩ : ByteArray) ++ dg (i + 1) = kj (i + 1) from rfl)
          obtain ⟨D, hD⟩ : ∃ D, D = dg (i + 1) := ⟨_, rfl⟩
          rw [← hD] at CD hdg HKJ
          clear hD
          have hsz : D.size + 1 ≤ 9223372036854775807 := by omega
          have hsz1 : 1 + D.size ≤ 9223372036854775807 := by omega
          have hsz2 : decide (1 + D.size ≤ 9223372036854775807) = true := decide_eq_true hsz1
          have hsz3 : (9223372036854775807 < 1 + D.size) = False := eq_false (by omega)
          have hsz4 : ((⟨#[107]⟩ : ByteArray) ++ D).size ≤ 9223372036854775807 := by rw [ByteArray.size_append]; exact hsz1
          clear hdg
          go_wp2_with fail
          (with_reducible refine (CD.out _).mono ?_); rintro e w3 ⟨rfl, hf3⟩
          have HJ := Aside0.mk (HI.out.movedN hf3)
          clear hf3 CD
          by_cases hin : i < n
          · have y1 : decide ((i : Int) < (n : Int)) = true := decide_eq_true (by omega)
            have y1' : decide (i < n) = true := decide_eq_true (by omega)
            have y2 : decide ((n : Int) ≤ (i : Int)) = false := decide_eq_false (by omega)
            have y2' : decide (n ≤ i) = false := decide_eq_false (by omega)
            have HA : Aside0 (Calls Try.prog 41 #[.pointer (some ⟨cb, 0, none⟩), .string ((⟨#[107]⟩ : ByteArray) ++ D), .int .i64 1, .int .i64 20, .int .i64 10] w3 fun e w' => e = .returned (.tuple #[.int .i64 1, .int .i64 0]) ∧ CR w w' cb n 1 (min (i + 1) n)) := by
              refine ⟨?_⟩
              have h := HJ.out
              rw [HKJ.out]
              rw [show min i n = i by omega] at h
              rw [show min (i + 1) n = i + 1 by omega]
              exact h.next hin (by decide) (by omega)
            go_wp2_with fail
            (with_reducible refine HA.out.mono ?_); rintro e w4 ⟨rfl, h4⟩
            have H4 := Aside0.mk h4
            clear h4
            go_wp2
            refine ⟨?_, by simp [intOf]; omega⟩
            (repeat apply Exists.intro)
            exact ⟨⟨i + 1, by go_num, by omega, H4⟩, rfl⟩
          · have y1 : decide ((i : Int) < (n : Int)) = false := decide_eq_false (by omega)
            have y1' : decide (i < n) = false := decide_eq_false (by omega)
            have y2 : decide ((n : Int) ≤ (i : Int)) = true := decide_eq_true (by omega)
            have y2' : decide (n ≤ i) = true := decide_eq_true (by omega)
            have HA : Aside0 (Calls Try.prog 41 #[.pointer (some ⟨cb, 0, none⟩), .string ((⟨#[107]⟩ : ByteArray) ++ D), .int .i64 1, .int .i64 20, .int .i64 10] w3 fun e w' => e = .returned (.tuple #[.int .i64 0, .int .i64 6]) ∧ CR w w' cb n 1 (min (i + 1) n)) := by
              refine ⟨?_⟩
              have h := HJ.out
              rw [HKJ.out]
              rw [show min i n = n by omega] at h
              rw [show min (i + 1) n = n by omega]
              exact h.full rfl (by decide) i (by omega) (by omega)
            go_wp2_with fail
            (with_reducible refine HA.out.mono ?_); rintro e w4 ⟨rfl, h4⟩
            have H4 := Aside0.mk h4
            clear h4
            go_wp2
            refine ⟨?_, by simp [intOf]; omega⟩
            (repeat apply Exists.intro)
            exact ⟨⟨i + 1, by go_num, by omega, H4⟩, rfl⟩
        · obtain rfl : i = n + more := by omega
          have z1 : decide (((n + more : Nat) : Int) < (n : Int) + (more : Int)) = false := decide_eq_false (by omega)
          have z2 : decide (((n + more : Nat) : Int) < IntKind.i64.wrap ((n : Int) + (more : Int))) = false := decide_eq_false (by rw [IntKind.wrap_i64]; omega)
          have z3 : decide (((n : Int) + (more : Int)) < (n : Int) + (more : Int)) = false := decide_eq_false (by omega)
          have z4 : decide (n + more < n + more) = false := decide_eq_false (by omega)
          have HF : Aside0 (CR w wr cb n 1 n) := ⟨by have h := HI.out; rw [show min (n + more) n = n by omega] at h; exact h⟩
          clear HI
          have q1 : ((n : Int) != (n : Int)) = false := by simp
          have q2 : (n != n) = false := by simp
          have C1 : Aside0 (Calls Try.prog 44 #[.pointer (some ⟨cb, 0, none⟩), .int .i64 19] wr fun e w' => e = .returned (.int .i64 (n : Nat)) ∧ wr = w') := ⟨HF.out.live9⟩
          have C2 : Aside0 (Calls Try.prog 44 #[.pointer (some ⟨cb, 0, none⟩), .int .i64 20] wr fun e w' => e = .returned (.int .i64 0) ∧ wr = w') := ⟨HF.out.live10⟩
          go_wp2_with fail
          (with_reducible refine C1.out.mono ?_); rintro e w3 ⟨rfl, rfl⟩
          go_wp2_with fail
          (with_reducible refine C2.out.mono ?_); rintro e w3 ⟨rfl, rfl⟩
          go_wp2_with fail
          (with_reducible refine HF.out.held.mono ?_); rintro e w3 ⟨rfl, rfl⟩
          go_wp2
          go_roundw
          case rel => exact ⟨2, by go_num, by omega, ⟨HF.out.f⟩⟩
          case measure => simp [intOf]
    · subst hr0
      have a1 : decide (((2 : Nat) : Int) < 2) = false := by decide
      go_wp2_with fail
      (with_reducible refine (cawake_any _).mono ?_); rintro e w5 ⟨rfl, hf5⟩
      have HF5 := Aside0.mk (HI.out.trans hf5)
      clear hf5
      go_wp2
      go_ret
      exact ⟨rfl, HF5.out⟩
theorem cr_o1 (n more : Int) (w : World) (h1 : n < 1) : Calls Try.prog 9 #[.int .i64 n, .int .i64 more] w fun e w' => e = .returned (.bool true) ∧ Frm (fun _ => False) w w' := by
  have d1 : decide (n < 1) = true := decide_eq_true h1
  go_enter Try.func9, Try.ntmps9
  go_wp2_with fail
  (with_reducible refine (cawake_any _).mono ?_); rintro e w3 ⟨rfl, hf3⟩
  have HF3 := Aside0.mk hf3
  clear hf3
  go_wp2
  go_ret
  exact ⟨rfl, HF3.out⟩
theorem cr_o2 (n more : Int) (w : World) (h1 : ¬ n < 1) (h2 : 100 < n) : Calls Try.prog 9 #[.int .i64 n, .int .i64 more] w fun e w' => e = .returned (.bool true) ∧ Frm (fun _ => False) w w' := by
  have d1 : decide (n < 1) = false := decide_eq_false h1
  have d2 : decide (100 < n) = true := decide_eq_true h2
  go_enter Try.func9, Try.ntmps9
  go_wp2_with fail
  (with_reducible refine (cawake_any _).mono ?_); rintro e w3 ⟨rfl, hf3⟩
  have HF3 := Aside0.mk hf3
  clear hf3
  go_wp2
  go_ret
  exact ⟨rfl, HF3.out⟩
theorem cr_o3 (n more : Int) (w : World) (h1 : ¬ n < 1) (h2 : ¬ 100 < n) (h3 : more < 0) : Calls Try.prog 9 #[.int .i64 n, .int .i64 more] w fun e w' => e = .returned (.bool true) ∧ Frm (fun _ => False) w w' := by
  have d1 : decide (n < 1) = false := decide_eq_false h1
  have d2 : decide (100 < n) = false := decide_eq_false h2
  have d3 : decide (more < 0) = true := decide_eq_true h3
  go_enter Try.func9, Try.ntmps9
  go_wp2_with fail
  (with_reducible refine (cawake_any _).mono ?_); rintro e w3 ⟨rfl, hf3⟩
  have HF3 := Aside0.mk hf3
  clear hf3
  go_wp2
  go_ret
  exact ⟨rfl, HF3.out⟩
theorem cr_o4 (n more : Int) (w : World) (h1 : ¬ n < 1) (h2 : ¬ 100 < n) (h3 : ¬ more < 0) (h4 : 50 < more) : Calls Try.prog 9 #[.int .i64 n, .int .i64 more] w fun e w' => e = .returned (.bool true) ∧ Frm (fun _ => False) w w' := by
  have d1 : decide (n < 1) = false := decide_eq_false h1
  have d2 : decide (100 < n) = false := decide_eq_false h2
  have d3 : decide (more < 0) = false := decide_eq_false h3
  have d4 : decide (50 < more) = true := decide_eq_true h4
  go_enter Try.func9, Try.ntmps9
  go_wp2_with fail
  (with_reducible refine (cawake_any _).mono ?_); rintro e w3 ⟨rfl, hf3⟩
  have HF3 := Aside0.mk hf3
  clear hf3
  go_wp2
  go_ret
  exact ⟨rfl, HF3.out⟩
theorem cacheRoom_calls (n more : Int) (w : World) : Calls Try.prog 9 #[.int .i64 n, .int .i64 more] w fun e w' => e = .returned (.bool true) ∧ Below w.heap.size w w' := by
  have fin : ∀ {e : Ending} {w' : World}, (e = .returned (.bool true) ∧ Frm (fun _ => False) w w') → (e = .returned (.bool true) ∧ Below w.heap.size w w') := fun h => ⟨h.1, h.2.to_below⟩
  by_cases h1 : n < 1
  · exact (cr_o1 n more w h1).mono fun e w' h => fin h
  by_cases h2 : 100 < n
  · exact (cr_o2 n more w h1 h2).mono fun e w' h => fin h
  by_cases h3 : more < 0
  · exact (cr_o3 n more w h1 h2 h3).mono fun e w' h => fin h
  by_cases h4 : 50 < more
  · exact (cr_o4 n more w h1 h2 h3 h4).mono fun e w' h => fin h
  obtain ⟨a, rfl⟩ : ∃ a : Nat, n = a := ⟨n.toNat, by omega⟩
  obtain ⟨b, rfl⟩ : ∃ b : Nat, more = b := ⟨more.toNat, by omega⟩
  exact (cr_walk a b w (by omega) (by omega) (by omega)).mono fun e w' h => fin h
end Go.Proofs.Ytjgoddieamphpaa.Ca
