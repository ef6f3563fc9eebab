/- ProbeTexts, the walk. -/
import Derived.Test.YtjgoddieamphpaaOTQ
import Derived.Deep.RegionWith
namespace Go.Proofs.Ytjgoddieamphpaa.Obj
open Go.RowKit Go.Proofs.YtjgoddieamphpaaW.PrintWords Go.Proofs.YtjgoddieamphpaaW.PrintLast Probe Go.Proofs.Ytjgoddieamphpaa.PProbeActs
set_option maxRecDepth 100000
set_option linter.unusedVariables false
def rowT (keys : List ByteArray) (n : Nat) : Nat → List S98
  | 0 => []
  | i + 1 => putL (rowT keys n i) n (strAt keys i) (i : Nat)
theorem rowT_val (keys : List ByteArray) (n : Nat) : ∀ i, ∀ c ∈ rowT keys n i, ∃ x : Nat, c.f1 = x ∧ x < i
  | 0 => fun c hc => by cases hc
  | i + 1 => fun c hc => by
    have ih := rowT_val keys n i
    have up : ∀ c ∈ rowT keys n i, ∃ x : Nat, c.f1 = x ∧ x < i + 1 := fun c hc => by obtain ⟨x, h1, h2⟩ := ih c hc; exact ⟨x, h1, by omega⟩
    have hc' : c ∈ putL (rowT keys n i) n (strAt keys i) (i : Nat) := hc
    unfold putL at hc'
    split at hc'
    · rename_i j hj
      rcases List.mem_or_eq_of_mem_set hc' with h | rfl
      · exact up c h
      · exact ⟨i, rfl, by omega⟩
    · split at hc'
      · exact up c hc'
      · rcases List.mem_append.1 hc' with h | h
        · exact up c h
        · obtain rfl := List.mem_singleton.1 h
          exact ⟨i, rfl, by omega⟩
theorem rowT_at (keys : List ByteArray) (n i : Nat) (k : ByteArray) (j : Nat) (h : idx (rowT keys n i) k = some j) : ∃ x : Nat, ((rowT keys n i).getD j z98).f1 = x ∧ x < i := by
  obtain ⟨hl, _⟩ := idx_some h
  rw [getD_at _ _ hl]
  exact rowT_val keys n i _ (List.getElem_mem hl)
theorem new64 (n : Nat) (vals : List ByteArray) (hn : 1 ≤ n) (hN : n ≤ 64) (w : World) :
    Calls Try.prog 14 #[.int .i64 (n : Int)] w fun e w' => ∃ p b, e = .returned (.tuple #[.pointer (some ⟨p, 0, none⟩), .int .i64 0]) ∧ TLS (fun x => strAt vals x.toNat) w' p b n [] ∧ w.heap.size ≤ p ∧ w.heap.size ≤ b ∧ Frm (fun _ => False) w w' := stnew n hn (by omega) w
theorem pt_start {w w1 : World} {vals : List ByteArray} {p b n : Nat} (h : TLS (fun x => strAt vals x.toNat) w1 p b n []) (hp : w.heap.size ≤ p) (hb : w.heap.size ≤ b) (hf : Frm (fun _ => False) w w1) :
    PT w (w1.alloc (.cells #[.int .i64 n, .slice none 0 0] 31)) vals p b w1.heap.size n [] [] :=
  ⟨stl_frm h ((Frm.refl (fun _ => False) w1).alloc _) (fun x => x) (fun x => x), ⟨.slice none 0 0, ⟨blk_new _ _, Kd.R_nil _ _ _ _ _, by simp⟩⟩, hf.alloc _, hp, hb, hf.size⟩
set_option maxHeartbeats 4000000 in
theorem pt_walk (n : Nat) (A1 : Option Addr) (c1 : Nat) (l1 : List ByteArray) (A2 : Option Addr) (c2 : Nat) (l2 : List ByteArray) (w : World) (hr1 : Kd.C Kd.string w A1 l1.length l1) (hc1 : l1.length ≤ c1) (hr2 : Kd.C Kd.string w A2 l2.length l2) (hc2 : l2.length ≤ c2)
    (hn : 1 ≤ n) (hN : n ≤ 64) (h60 : l1.length ≤ 60) (hle : l1.length ≤ l2.length) :
    Calls Try.prog 3 #[.int .i64 (n : Int), .slice A1 l1.length c1, .slice A2 l2.length c2] w fun e w' => e = .returned (.bool true) ∧ Frm (fun _ => False) w w' := by
  have HR1 := Aside0.mk hr1
  have HR2 := Aside0.mk hr2
  clear hr1 hr2
  have d1 : decide ((n : Int) < 1) = false := decide_eq_false (by omega)
  have d2 : decide (n < 1) = false := decide_eq_false (by omega)
  have d3 : decide ((64 : Int) < (n : Int)) = false := decide_eq_false (by omega)
  have d4 : decide (64 < n) = false := decide_eq_false (by omega)
  have d5 : decide ((60 : Int) < (l1.length : Int)) = false := decide_eq_false (by omega)
  have d6 : decide (60 < l1.length) = false := decide_eq_false (by omega)
  have d7 : decide ((l2.length : Int) < (l1.length : Int)) = false := decide_eq_false (by omega)
  have d8 : decide (l2.length < l1.length) = false := decide_eq_false (by omega)
  go_enter Try.func3, Try.ntmps3
  go_wp2_with fail
  (with_reducible refine (new64 n l2 hn hN _).mono ?_); rintro e w1 ⟨p, b, rfl, ht, hp, hb, hf⟩
  have HP := Aside0.mk (pt_start ht hp hb hf)
  clear ht hf
  go_wp2
  generalize hm : w1.heap.size = m at *
  clear hm
  go_loopw [10] (fun v10 wr => ∃ i : Nat, v10 = .int .i64 (i : Nat) ∧ i ≤ l1.length ∧ Aside0 (PT w wr l2 p b m n (rowT l1 n i) (rowT l1 n i)) ∧ Aside0 (∀ q, q < i → (strAt l1 q).size ≤ 100)) (fun v10 _ => l1.length - (intOf v10).toNat)
  case atStart => exact ⟨0, rfl, Nat.zero_le _, HP, ⟨fun q hq => by omega⟩⟩
  case round =>
    clear HP
    obtain ⟨i, rfl, hi, HP, HS⟩ := hrel
    by_cases hlt : i < l1.length
    · obtain ⟨ad1, rfl, hk0⟩ := texts_at HR1.out i hlt
      obtain ⟨ad2, rfl, hv0⟩ := texts_at HR2.out i (by omega)
      have q1 := HP.out.cell hk0
      have q2 := HP.out.cell hv0
      have hlt2 : i < l2.length := by omega
      by_cases hks : 100 < (strAt l1 i).size
      · have g1 : decide (100 < (strAt l1 i).size) = true := decide_eq_true hks
        have g2 : decide ((100 : Int) < ((strAt l1 i).size : Int)) = true := decide_eq_true (by omega)
        clear hk0 hv0 q2
        go_wp2_with fail
        (with_reducible refine (awake_any _).mono ?_); rintro e w3 ⟨rfl, hf3⟩
        have HF3 := Aside0.mk (HP.out.f.trans hf3)
        clear hf3
        go_wp2
        go_ret
        exact ⟨rfl, HF3.out⟩
      · have g1 : decide (100 < (strAt l1 i).size) = false := decide_eq_false hks
        have g2 : decide ((100 : Int) < ((strAt l1 i).size : Int)) = false := decide_eq_false (by omega)
        have hss := Lib.hid (show (strAt l1 i).size ≤ 9223372036854775807 by omega)
        have HS1 : Aside0 (∀ q, q < i + 1 → (strAt l1 q).size ≤ 100) := ⟨fun q hq => by
          by_cases hqi : q = i
          · subst hqi; omega
          · exact HS.out q (by omega)⟩
        have HK0 := Lib.hid hk0
        have HV0 := Lib.hid hv0
        have HN := Lib.hid (show n ≤ 5000 by omega)
        clear hk0 hv0 hks
        go_wp2
        go_region_with (first | (go_at_call 15; refine (PT.put_t (by first | exact HP2.out | exact HP.out.drew) _ hss.out i).mono ?_; rintro e w1 ⟨rfl, hp1⟩; have HP1 := Aside0.mk hp1; have q3 := hp1.cell HK0.out; have q4 := hp1.cell HV0.out; clear hp1) | (go_at_call 16; refine (PT.put_r (by first | exact HP1.out | exact HP.out.drew) HN.out _ i).mono ?_; rintro e w2 ⟨rfl, hp2⟩; have HP2 := Aside0.mk hp2; have q5 := hp2.cell HK0.out; have q6 := hp2.cell HV0.out; clear hp2))
        all_goals (go_wp2; go_roundw)
        all_goals first | (case rel => exact ⟨i + 1, by go_num, by omega, ⟨by first | exact HP2.out | exact HP1.out⟩, HS1⟩) | skip
        all_goals (simp [intOf]; omega)
    · obtain rfl : i = l1.length := by omega
      go_wp2
      go_loopw [11] (fun v11 wr2 => ∃ j : Nat, v11 = .int .i64 (j : Nat) ∧ j ≤ l1.length ∧ Aside0 (PT w wr2 l2 p b m n (rowT l1 n l1.length) (rowT l1 n l1.length))) (fun v11 _ => l1.length - (intOf v11).toNat)
      case atStart => exact ⟨0, rfl, Nat.zero_le _, HP⟩
      case round =>
        clear HP
        obtain ⟨j, rfl, hj, HP⟩ := hrel
        by_cases hlt2 : j < l1.length
        · obtain ⟨ad1, rfl, hk0⟩ := texts_at HR1.out j hlt2
          have q1 := HP.out.cell hk0
          have HK0 := Lib.hid hk0
          clear hk0
          have hss : (strAt l1 j).size ≤ 9223372036854775807 := by have := HS.out j hlt2; omega
          have hss := Lib.hid hss
          cases hi2 : idx (rowT l1 n l1.length) (strAt l1 j) with
          | some i2 =>
            obtain ⟨x, hx, hxl⟩ := rowT_at _ _ _ _ _ hi2
            obtain ⟨ad2, rfl, hv0⟩ := texts_at HR2.out x (by omega)
            have hxl2 : x < l2.length := by omega
            have q2 := HP.out.cell hv0
            have HI := Lib.hid hi2
            have HX := Lib.hid hx
            have HV0 := Lib.hid hv0
            clear hi2 hx hv0
            go_wp2_with fail
            (with_reducible refine (PT.get_t_some HP.out _ hss.out i2 x HI.out HX.out).mono ?_); rintro e w3 ⟨rfl, rfl⟩
            go_wp2_with fail
            (with_reducible refine (PT.get_r_some HP.out _ i2 x HI.out HX.out).mono ?_); rintro e w3 ⟨rfl, hp3⟩
            have HP3 := Aside0.mk hp3
            have q3 := hp3.cell HV0.out
            clear hp3
            go_wp2
            go_roundw
            case rel => exact ⟨j + 1, by go_num, by omega, HP3⟩
            case measure => simp [intOf]; omega
          | none =>
            have HI := Lib.hid hi2
            clear hi2
            go_wp2_with fail
            (with_reducible refine (PT.get_t_none HP.out _ hss.out HI.out).mono ?_); rintro e w3 ⟨rfl, rfl⟩
            go_wp2_with fail
            (with_reducible refine (PT.get_r_none HP.out _ HI.out).mono ?_); rintro e w3 ⟨rfl, hp3⟩
            have HP3 := Aside0.mk hp3
            clear hp3
            go_wp2
            go_roundw
            case rel => exact ⟨j + 1, by go_num, by omega, HP3⟩
            case measure => simp [intOf]; omega
        · obtain rfl : j = l1.length := by omega
          obtain ⟨vL, hvL⟩ := HP.out.r
          obtain ⟨AL, cL, rfl⟩ := Kd.R_slice hvL.row
          have cm1 := hvL.c1
          clear hvL
          go_wp2
          go_region_with (first | (go_at_call 19; refine (PT.len HP.out.drew).mono ?_; rintro e w3 ⟨rfl, rfl⟩) | (go_at_call 13; refine (awake_any _).mono ?_; rintro e w4 ⟨rfl, hf4⟩; have HF4 := Aside0.mk hf4; clear hf4))
          all_goals (go_wp2; go_ret; exact ⟨rfl, HP.out.drew.f.trans HF4.out⟩)
end Go.Proofs.Ytjgoddieamphpaa.Obj
