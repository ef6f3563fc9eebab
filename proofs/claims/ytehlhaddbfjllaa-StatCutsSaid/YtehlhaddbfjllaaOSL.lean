/- Maps of texts to numbers, and what counts in them: a part of the proof. -/
import Derived.Test.YtehlhaddbfjllaaOSK
namespace Go.Proofs.Ytehlhaddbfjllaa.Mp
open Go.RowKit Go.Sort Go.Proofs.YtehlhaddbfjllaaW.PrintWords Go.Proofs.YtehlhaddbfjllaaW.PrintLast Go.Proofs.YtehlhaddbfjllaaW.PrintMore Go.Proofs.Ytehlhaddbfjllaa.PStatActs
attribute [local go_sem] max2_int min2_int max_two min_two max_three min_three max_four min_four
set_option maxRecDepth 100000
set_option linter.unusedVariables false
theorem bytes_nil {a : ByteArray} (h : ¬ a = ByteArray.empty) : ¬ a.toList = [] := by
  intro e; apply h
  rw [ByteArray.toList_eq] at e
  cases a; simp at e; simp [e]; rfl
theorem sc_out (s : ByteArray) (n : Int) (h : 5000 < s.size) (w : World) : Calls Try.prog 8 #[.string s, .int .i64 n] w fun e w' => e = .returned (.bool true) ∧ Frm (fun _ => False) w w' := by
  have d1 : decide ((5000 : Int) < (s.size : Int)) = true := decide_eq_true (by omega)
  have d1' : decide (5000 < s.size) = true := decide_eq_true h
  clear h
  go_enter Try.func8, Try.ntmps8
  go_wp2_with fail
  (with_reducible refine (awake_any _).mono ?_); rintro e w3 ⟨rfl, hf3⟩
  have HF3 := Aside0.mk hf3
  clear hf3
  go_wp2
  go_ret
  exact ⟨rfl, HF3.out⟩
theorem sc_all (s : ByteArray) (n : Int) (h : s.size ≤ 5000) (hn : (s.size : Int) ≤ n) (w : World) : Calls Try.prog 8 #[.string s, .int .i64 n] w fun e w' => e = .returned (.bool true) ∧ Frm (fun _ => False) w w' := by
  have d1 : decide ((5000 : Int) < (s.size : Int)) = false := decide_eq_false (by omega)
  have d1' : decide (5000 < s.size) = false := decide_eq_false (by omega)
  have ht : cutB s n = s := if_pos hn
  have C1 : Aside0 (∀ w, Calls Try.prog 34 #[.string s, .int .i64 n] w fun e w' => e = .returned (.string s) ∧ Frm (fun _ => False) w w') := ⟨fun w => (ccut s n h w).mono fun e w' ⟨a, b⟩ => ⟨a.trans (by rw [ht]), b⟩⟩
  have C2 : Aside0 (∀ w, Calls Try.prog 35 #[.string s, .int .i64 n] w fun e w' => e = .returned (.string s) ∧ Frm (fun _ => False) w w') := ⟨fun w => (crcut s n h w).mono fun e w' ⟨a, b⟩ => ⟨a.trans (by rw [ht]), b⟩⟩
  have hx : s.extract 0 s.size = s := by apply ByteArray.ext; simp
  have e1 : (n < (s.size : Int)) = False := eq_false (by omega)
  have e2 : ((s.size : Int) < 0) = False := eq_false (by omega)
  clear ht
  go_enter Try.func8, Try.ntmps8
  go_wp2_with fail
  (with_reducible refine (C1.out _).mono ?_); rintro e w1 ⟨rfl, f1⟩
  have F1 := Aside0.mk f1
  clear f1
  go_wp2_with fail
  (with_reducible refine (C2.out _).mono ?_); rintro e w2 ⟨rfl, f2⟩
  have F2 := Aside0.mk (F1.out.trans f2)
  clear f2 F1
  go_wp2_with (go_at_call 21; refine (awake_any _).mono ?_; rintro e w3 ⟨rfl, hf3⟩; have HF3 := Aside0.mk (F2.out.trans hf3); clear hf3)
  go_ret
  exact ⟨rfl, HF3.out⟩
theorem sc_none (s : ByteArray) (n : Int) (h : s.size ≤ 5000) (hn : n < (s.size : Int)) (ht : cutB s n = ⟨#[]⟩) (w : World) : Calls Try.prog 8 #[.string s, .int .i64 n] w fun e w' => e = .returned (.bool true) ∧ Frm (fun _ => False) w w' := by
  have d1 : decide ((5000 : Int) < (s.size : Int)) = false := decide_eq_false (by omega)
  have d1' : decide (5000 < s.size) = false := decide_eq_false (by omega)
  have C1 : Aside0 (∀ w, Calls Try.prog 34 #[.string s, .int .i64 n] w fun e w' => e = .returned (.string ⟨#[]⟩) ∧ Frm (fun _ => False) w w') := ⟨fun w => (ccut s n h w).mono fun e w' ⟨a, b⟩ => ⟨a.trans (by rw [ht]), b⟩⟩
  have C2 : Aside0 (∀ w, Calls Try.prog 35 #[.string s, .int .i64 n] w fun e w' => e = .returned (.string ⟨#[]⟩) ∧ Frm (fun _ => False) w w') := ⟨fun w => (crcut s n h w).mono fun e w' ⟨a, b⟩ => ⟨a.trans (by rw [ht]), b⟩⟩
  have e1 : (n < (s.size : Int)) = True := eq_true hn
  have hx : s.extract 0 0 = ⟨#[]⟩ := by apply ByteArray.ext; simp
  clear ht
  by_cases h0 : n < 0
  · have e2 : (n < 0) = True := eq_true h0
    by_cases hs : s.size = 0
    · have e3 : ((0 : Int) == (s.size : Int)) = true := by rw [hs]; rfl
      clear h0 hn h
      go_enter Try.func8, Try.ntmps8
      go_wp2_with fail
      (with_reducible refine (C1.out _).mono ?_); rintro e w1 ⟨rfl, f1⟩
      have F1 := Aside0.mk f1
      clear f1
      go_wp2_with fail
      (with_reducible refine (C2.out _).mono ?_); rintro e w2 ⟨rfl, f2⟩
      have F2 := Aside0.mk (F1.out.trans f2)
      clear f2 F1
      go_wp2_with (go_at_call 21; refine (awake_any _).mono ?_; rintro e w3 ⟨rfl, hf3⟩; have HF3 := Aside0.mk (F2.out.trans hf3); clear hf3)
      go_ret
      exact ⟨rfl, HF3.out⟩
    · have e3 : ((0 : Int) == (s.size : Int)) = false := by simp; omega
      clear h0 hn h hs
      go_enter Try.func8, Try.ntmps8
      go_wp2_with fail
      (with_reducible refine (C1.out _).mono ?_); rintro e w1 ⟨rfl, f1⟩
      have F1 := Aside0.mk f1
      clear f1
      go_wp2_with fail
      (with_reducible refine (C2.out _).mono ?_); rintro e w2 ⟨rfl, f2⟩
      have F2 := Aside0.mk (F1.out.trans f2)
      clear f2 F1
      go_wp2_with (go_at_call 21; refine (awake_any _).mono ?_; rintro e w3 ⟨rfl, hf3⟩; have HF3 := Aside0.mk (F2.out.trans hf3); clear hf3)
      go_ret
      exact ⟨rfl, HF3.out⟩
  · have e2 : (n < 0) = False := eq_false h0
    have e4 : (0 : Int) ≤ n := by omega
    have e3 : ((0 : Int) == (s.size : Int)) = false := by simp; omega
    clear h0 hn h
    go_enter Try.func8, Try.ntmps8
    go_wp2_with fail
    (with_reducible refine (C1.out _).mono ?_); rintro e w1 ⟨rfl, f1⟩
    have F1 := Aside0.mk f1
    clear f1
    go_wp2_with fail
    (with_reducible refine (C2.out _).mono ?_); rintro e w2 ⟨rfl, f2⟩
    have F2 := Aside0.mk (F1.out.trans f2)
    clear f2 F1
    go_wp2_with (go_at_call 21; refine (awake_any _).mono ?_; rintro e w3 ⟨rfl, hf3⟩; have HF3 := Aside0.mk (F2.out.trans hf3); clear hf3)
    go_ret
    exact ⟨rfl, HF3.out⟩
theorem sc_some (s t : ByteArray) (n : Int) (h : s.size ≤ 5000) (hn : n < (s.size : Int)) (ht : cutB s n = t) (h0 : 0 < t.size) (hl : (t.size : Int) ≤ n) (hx : s.extract 0 t.size = t) (hi : ∀ h : t.size - 1 < t.size, (t[t.size - 1]'h).toNat = 10) (w : World) : Calls Try.prog 8 #[.string s, .int .i64 n] w fun e w' => e = .returned (.bool true) ∧ Frm (fun _ => False) w w' := by
  have d1 : decide ((5000 : Int) < (s.size : Int)) = false := decide_eq_false (by omega)
  have d1' : decide (5000 < s.size) = false := decide_eq_false (by omega)
  have C1 : Aside0 (∀ w, Calls Try.prog 34 #[.string s, .int .i64 n] w fun e w' => e = .returned (.string t) ∧ Frm (fun _ => False) w w') := ⟨fun w => (ccut s n h w).mono fun e w' ⟨a, b⟩ => ⟨a.trans (by rw [ht]), b⟩⟩
  have C2 : Aside0 (∀ w, Calls Try.prog 35 #[.string s, .int .i64 n] w fun e w' => e = .returned (.string t) ∧ Frm (fun _ => False) w w') := ⟨fun w => (crcut s n h w).mono fun e w' ⟨a, b⟩ => ⟨a.trans (by rw [ht]), b⟩⟩
  have e1 : (n < (s.size : Int)) = True := eq_true hn
  have e2 : (n < 0) = False := eq_false (by omega)
  have e3 : ((t.size : Int) == (s.size : Int)) = false := by simp; omega
  have e4 : ((t.size : Int) < (s.size : Int)) = True := eq_true (by omega)
  have hne : ¬ t = ByteArray.empty := fun e => by rw [e] at h0; exact absurd h0 (by decide)
  have hnl : (t.toList = []) = False := eq_false (bytes_nil hne)
  have e5 : (1 ≤ (t.size : Int) ∧ (t.size : Int) - 1 < (t.size : Int)) = True := eq_true ⟨by omega, by omega⟩
  clear ht
  go_enter Try.func8, Try.ntmps8
  go_wp2_with fail
  (with_reducible refine (C1.out _).mono ?_); rintro e w1 ⟨rfl, f1⟩
  have F1 := Aside0.mk f1
  clear f1
  go_wp2_with fail
  (with_reducible refine (C2.out _).mono ?_); rintro e w2 ⟨rfl, f2⟩
  have F2 := Aside0.mk (F1.out.trans f2)
  clear f2 F1
  go_wp2_with (go_at_call 21; refine (awake_any _).mono ?_; rintro e w3 ⟨rfl, hf3⟩; have HF3 := Aside0.mk (F2.out.trans hf3); clear hf3)
  go_ret
  exact ⟨rfl, HF3.out⟩
theorem statCuts_frm (s : ByteArray) (n : Int) (w : World) : Calls Try.prog 8 #[.string s, .int .i64 n] w fun e w' => e = .returned (.bool true) ∧ Frm (fun _ => False) w w' := by
  by_cases h : 5000 < s.size
  · exact sc_out s n h w
  have h : s.size ≤ 5000 := by omega
  by_cases hn : (s.size : Int) ≤ n
  · exact sc_all s n h hn w
  have hn : n < (s.size : Int) := by omega
  have hc : cutB s n = s.extract 0 (lst s (max n 0).toNat) := if_neg (by omega)
  have hle := lst_le s (max n 0).toNat
  have hat := lst_at s (max n 0).toNat
  generalize lst s (max n 0).toNat = e at hc hle hat
  rcases Nat.eq_zero_or_pos e with h0 | h0
  · subst h0
    exact sc_none s n h hn (hc.trans (by apply ByteArray.ext; simp)) w
  · have hes : e ≤ s.size := by omega
    have hsz : (s.extract 0 e).size = e := by simp [ByteArray.size_extract]; omega
    refine sc_some s (s.extract 0 e) n h hn hc (by omega) (by omega) (by rw [hsz]) (fun h' => ?_) w
    rcases hat with hat | hat
    · omega
    have hd : e - 1 < s.data.size := by have : s.data.size = s.size := rfl; omega
    rw [getElem!_pos s.data (e - 1) hd] at hat
    have hg : (s.extract 0 e)[(s.extract 0 e).size - 1]'h' = s.data[e - 1]'hd := by
      simp only [hsz]
      rw [ByteArray.getElem_extract]
      simp
      rfl
    rw [hg]; exact hat
theorem statCuts_calls (s : ByteArray) (n : Int) (w : World) : Calls Try.prog 8 #[.string s, .int .i64 n] w fun e w' => e = .returned (.bool true) ∧ Below w.heap.size w w' :=
  (statCuts_frm s n w).mono fun e w' h => ⟨h.1, h.2.to_below⟩
end Go.Proofs.Ytehlhaddbfjllaa.Mp
