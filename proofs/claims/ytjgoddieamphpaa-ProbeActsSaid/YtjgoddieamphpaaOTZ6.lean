/- A part of the proof. -/
import Derived.Test.YtjgoddieamphpaaOTZ5
namespace Go.Proofs.Ytjgoddieamphpaa.Obj
open Go.RowKit Go.Sort Go.Proofs.YtjgoddieamphpaaW.PrintWords Go.Proofs.YtjgoddieamphpaaW.PrintLast Probe Go.Proofs.Ytjgoddieamphpaa.PProbeActs
set_option maxRecDepth 100000
set_option linter.unusedVariables false
set_option maxHeartbeats 8000000 in
theorem walks_any {p b m n N : Nat} {sl : List (Option (Ent Int))} {L : List S98} {A : Option Addr} {c : Nat} {w : World} (h : PW w w p b m n sl L A c) (hn : n ≤ 100) (hp : (items sl).Perm (L.map (PrI fun x => x))) (hN : N = 2 * n) (hs : ∀ c ∈ L, c.f0.size ≤ 9223372036854775807) :
    Calls Try.prog 51 #[.pointer (some ⟨p, 0, none⟩), .pointer (some ⟨m, 0, none⟩)] w fun e w' => e = .returned (.bool true) ∧ Frm (fun _ => False) w w' := by
  have hil : (items sl).length = L.length := by rw [hp.length_eq, List.length_map]
  have hl := h.t.room
  have hL : L.length ≤ 1000 := by omega
  have hX : (selN L.length L).length = L.length := by rw [(selN_perm L.length L rfl).length_eq, List.length_map]
  have hsl : sl.length = N := by have := h.t.len; omega
  have hkA : (ku sl N).length = L.length := by rw [← hsl, ku_all, List.length_map, hil]
  have m0 := h.r.c0
  have m1 := h.r.c1
  have hN2 : N ≤ 200 := by omega
  have HPM := Lib.hid hp
  have HIL := Lib.hid hil
  have HX := Lib.hid hX
  have HN := Lib.hid hN
  have HS := Lib.hid hs
  have HSL := Lib.hid hsl
  have HKA := Lib.hid hkA
  have HP := Aside0.mk h
  have k6 : IntKind.i64.wrap (2 * (n : Int)) = (N : Int) := by rw [i64_w]; unfold wrap64; omega
  have k7 : ((N : Int) != IntKind.i64.wrap (2 * (n : Int))) = false := by rw [k6]; simp
  have k5 : ((L.length : Int) != (L.length : Int)) = false := by simp
  clear h hp hil hX hN hs hl hsl hkA
  go_enter Try.func51, Try.ntmps51
  go_wp2_with fail
  (with_reducible refine (HP.out.slots HN.out).mono ?_); rintro e w' ⟨rfl, rfl⟩
  go_upto_region 2 with (fail)
  go_cut [53] (fun v53 wc => v53 = .bool false ∧ Aside0 (PW w wc p b m n sl L A c))
  case first =>
    go_region_with (first | (go_at_call 23; refine (PW.len (by first | exact HPk.out | exact HPn.out | exact HP.out.drew | exact HPk.out.drew | exact HPn.out.drew | exact HP.out) HPM.out).mono ?_; rintro e w3 ⟨rfl, rfl⟩) | (go_at_call 80; refine (PW.keys (by first | exact HPk.out | exact HPn.out | exact HP.out.drew | exact HPk.out.drew | exact HPn.out.drew | exact HP.out) (by omega) HPM.out).mono ?_; rintro e w4 ⟨A4, c4, rfl, hr4, hp4, hf4⟩; have HPk := Aside0.mk hp4; have HRk := Aside0.mk hr4; (try have HRn2 := Aside0.mk (row_frm (by first | exact HRn2.out | exact HRn.out | exact Kd.R_drew HRn.out | exact Kd.R_drew HRn2.out) hf4)); have n0 := hp4.r.c0; have n1 := hp4.r.c1; clear hr4 hp4 hf4) | (go_at_call 81; refine (PW.names (by first | exact HPk.out | exact HPn.out | exact HP.out.drew | exact HPk.out.drew | exact HPn.out.drew | exact HP.out) hL).mono ?_; rintro e w5 ⟨A5, c5, rfl, hr5, hp5, hf5⟩; have HPn := Aside0.mk hp5; have HRn := Aside0.mk hr5; (try have HRk2 := Aside0.mk (row_frm (by first | exact HRk2.out | exact HRk.out | exact Kd.R_drew HRk.out | exact Kd.R_drew HRk2.out) hf5)); have n2 := hp5.r.c0; have n3 := hp5.r.c1; clear hr5 hp5 hf5) | (go_at_call 31; refine (texts_same (by omega) HX.out (by first | exact HRk2.out | exact HRk.out | exact Kd.R_drew HRk.out | exact Kd.R_drew HRk2.out) (by first | exact HRn2.out | exact HRn.out | exact Kd.R_drew HRn.out | exact Kd.R_drew HRn2.out)).mono ?_; rintro e w6 ⟨rfl, ⟨nq, rfl⟩⟩))
    all_goals (go_wp2; go_meet)
    all_goals (case rel => first | exact ⟨rfl, ⟨HPk.out.drewN _⟩⟩ | exact ⟨rfl, ⟨HPn.out.drewN _⟩⟩ | exact ⟨rfl, ⟨(HPk.out.drewN _).drewN _⟩⟩ | exact ⟨rfl, ⟨(HPn.out.drewN _).drewN _⟩⟩ | exact ⟨rfl, HPk⟩ | exact ⟨rfl, HPn⟩)
  case rest =>
    clear m0 m1 HP
    obtain ⟨rfl, HP⟩ := hcut
    have m0 := HP.out.r.c0
    have m1 := HP.out.r.c1
    go_wp2
    go_loopw [6] (fun v6 wr => ∃ i : Nat, v6 = .int .i64 (i : Nat) ∧ i ≤ L.length ∧ Aside0 (PW w wr p b m n sl L A c)) (fun v6 _ => L.length - (intOf v6).toNat)
    case atStart => exact ⟨0, rfl, Nat.zero_le _, HP⟩
    case round =>
      clear HP m0 m1
      obtain ⟨i, rfl, hi, HP⟩ := hrel
      have m0 := HP.out.r.c0
      have m1 := HP.out.r.c1
      by_cases hlt : i < L.length
      · obtain ⟨q, hq, he⟩ := HP.out.place HN.out HPM.out i hlt
        obtain ⟨ad, k, v, rfl, hrd, hk, hv, q0, q1⟩ := HP.out.row i hlt
        have hks : k.size ≤ 9223372036854775807 := by rw [hk]; exact HS.out _ (by rw [getD_at _ _ hlt]; exact List.getElem_mem hlt)
        rw [← hk, ← hv] at he
        have HE := Lib.hid he
        have HKS := Lib.hid hks
        have t1 : (v != v) = false := by simp
        have t2 : decide ((q : Int) < 0) = false := decide_eq_false (by omega)
        have t3 : decide ((N : Int) ≤ (q : Int)) = false := decide_eq_false (by omega)
        have t4 : decide (N ≤ q) = false := decide_eq_false (by omega)
        have hN0 : 0 < N := by omega
        have hH := slotN_lt k N hN0
        have hz : ((N : Int) == 0) = false := by simp; omega
        clear he hks hrd hk hv
        go_wp2_with fail
        (with_reducible refine (HP.out.get1 HN.out HKS.out HE.out hq).mono ?_); rintro e w2 ⟨rfl, rfl⟩
        go_wp2_with fail
        (with_reducible refine (HP.out.at1 HN.out HKS.out HE.out hq).mono ?_); rintro e w2 ⟨rfl, rfl⟩
        go_wp2_with fail
        (with_reducible refine (rslot_any k N _ HKS.out hN0 (by omega)).mono ?_); rintro e w2 ⟨rfl, rfl⟩
        go_wp2
        have HP : Aside0 (PW w _ p b m n sl L (some ad) c) := ⟨HP.out.drewN 0⟩
        go_loopw [11] (fun v11 w2 => ∃ a : Nat, v11 = .int .i64 (a : Nat) ∧ a < N ∧ Aside0 (dist N a q ≤ dist N (slotN k N) q ∧ PW w w2 p b m n sl L (some ad) c)) (fun v11 _ => dist N (intOf v11).toNat q)
        case atStart => exact ⟨slotN k N, rfl, hH, ⟨Nat.le_refl _, by first | exact HP.out | exact HP.out.drew | exact HP.out.drewN _⟩⟩
        case round =>
          clear HP m0 m1 q0 q1
          obtain ⟨a, rfl, ha, HQ⟩ := hrel
          have m0 := HQ.out.2.r.c0
          have m1 := HQ.out.2.r.c1
          by_cases hne : a = q
          · subst hne
            have s1 : ((a : Int) != (a : Int)) = false := by simp
            go_wp2_with fail
            (with_reducible refine (HQ.out.2.own1 HN.out a ha HE.out).mono ?_); rintro e w3 ⟨rfl, rfl⟩
            go_wp2
            go_roundw
            case rel => exact ⟨i + 1, by go_num, by omega, ⟨by first | exact HQ.out.2 | exact HQ.out.2.drew⟩⟩
            case measure => simp [intOf]; omega
          · have s1 : ((a : Int) != (q : Int)) = true := by simp; omega
            have s2 : ((a : Int) == (q : Int)) = false := by simp; omega
            obtain ⟨k2, v2, he2⟩ := HQ.out.2.taken HN.out hq HE.out a ha HQ.out.1 hne
            have HE2 := Lib.hid he2
            clear he2
            go_wp2_with fail
            (with_reducible refine (HQ.out.2.own1 HN.out a ha HE2.out).mono ?_); rintro e w3 ⟨rfl, rfl⟩
            go_wp2
            go_roundw
            case rel => exact ⟨(a + 1) % N, by simp, Nat.mod_lt _ hN0, ⟨by have := dist_less N a q ha hq hne; have := HQ.out.1; omega, HQ.out.2⟩⟩
            case measure =>
              have := dist_less N a q ha hq hne
              simp [intOf]
              have e : (((a : Int) + 1) % (N : Int)).toNat = (a + 1) % N := by
                rw [show ((a : Int) + 1) = ((a + 1 : Nat) : Int) from by simp, ← Int.natCast_emod]; exact Int.toNat_natCast _
              rw [e]; omega
      · obtain rfl : i = L.length := by omega
        have l1 : decide ((L.length : Int) < (L.length : Int)) = false := decide_eq_false (by omega)
        clear m0 m1
        have m0 := HP.out.r.c0
        have m1 := HP.out.r.c1
        go_wp2
        go_loopw [16, 17] (fun v16 v17 wr => ∃ i : Nat, v17 = .int .i64 (i : Nat) ∧ v16 = .int .i64 ((ku sl i).length : Nat) ∧ i ≤ N ∧ Aside0 (PW w wr p b m n sl L A c)) (fun _ v17 _ => N - (intOf v17).toNat)
        case atStart => exact ⟨0, rfl, rfl, Nat.zero_le _, HP⟩
        case round =>
          clear HP m0 m1 hlt
          obtain ⟨i, rfl, rfl, hi, HP⟩ := hrel
          have m0 := HP.out.r.c0
          have m1 := HP.out.r.c1
          by_cases hlt : i < N
          · have hkl := ku_len sl i
            cases hx : at_ sl i with
            | none =>
              have HX2 := Lib.hid hx
              clear hx
              go_wp2_with fail
              (with_reducible refine (HP.out.own0 HN.out i hlt HX2.out).mono ?_); rintro e w3 ⟨rfl, rfl⟩
              go_wp2
              go_roundw
              case rel => exact ⟨i + 1, by go_num, by rw [ku_none sl i (by have := HSL.out; omega) HX2.out], by omega, HP⟩
              case measure => simp [intOf]; omega
            | some x =>
              obtain ⟨k2, v2⟩ := x
              have HX2 := Lib.hid hx
              clear hx
              go_wp2_with fail
              (with_reducible refine (HP.out.own1 HN.out i hlt HX2.out).mono ?_); rintro e w3 ⟨rfl, rfl⟩
              go_wp2
              go_roundw
              case rel => exact ⟨i + 1, by go_num, by rw [ku_some sl i (by have := HSL.out; omega) HX2.out, List.length_append]; simp, by omega, HP⟩
              case measure => simp [intOf]; omega
          · obtain rfl : i = N := by omega
            have l2 : decide ((i : Int) < (i : Int)) = false := decide_eq_false (by omega)
            have l3 : (((ku sl i).length : Int) == (L.length : Int)) = true := by rw [HKA.out]; simp
            have l4 : ((ku sl i).length == L.length) = true := by rw [HKA.out]; simp
            go_wp2_with fail
            (with_reducible refine (HP.out.ownM).mono ?_); rintro e w3 ⟨rfl, rfl⟩
            go_wp2_with fail
            (with_reducible refine (HP.out.ownN HN.out).mono ?_); rintro e w3 ⟨rfl, rfl⟩
            go_wp2
            go_ret
            exact ⟨rfl, by first | exact HP.out.f | exact HP.out.drew.f | exact (HP.out.drewN _).f⟩
end Go.Proofs.Ytjgoddieamphpaa.Obj
