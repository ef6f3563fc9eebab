/- A part of the proof. -/
import Derived.Test.YtjgoddieamphpaaOYB
namespace Go.Proofs.Ytjgoddieamphpaa.Wh
open Go.RowKit Go.Sort Go.Proofs.YtjgoddieamphpaaW.PrintWords Go.Proofs.YtjgoddieamphpaaW.PrintLast Heap Go.Proofs.Ytjgoddieamphpaa.Obj Go.Proofs.Ytjgoddieamphpaa.PWheelActs
set_option maxRecDepth 100000
set_option linter.unusedVariables false
theorem Dues.mem {now : Int} {m : Nat} {K K1 : List KV} {o : List ByteArray} (h : Dues now m K o K1) : ∀ k ∈ o, ∃ c ∈ K, c.1 = k := by
  induction h with
  | full => intro k hk; cases hk
  | none => intro k hk; cases hk
  | later => intro k hk; cases hk
  | one m K K1 K2 x out h1 h2 h3 h4 ih =>
    intro k hk
    rcases List.mem_cons.1 hk with rfl | hk
    · exact ⟨x, h1.1, rfl⟩
    · obtain ⟨c, hc, e⟩ := ih k hk
      exact ⟨c, (List.mem_filter.1 (h3.mem_iff.1 hc)).1, e⟩
theorem Prog.mem {now : Int} {K K2 : List KV} {o : List ByteArray} {i : Nat} (h : Prog now K o K2 i) : ∀ k ∈ o, ∃ c ∈ K, c.1 = k := by
  obtain ⟨q, K3, h1, h2⟩ := h.d
  exact h1.mem
theorem WK.small {w : World} {S : Nat → Prop} {p : Nat} {K : List KV} (h : WK w S p K) : ∀ c ∈ K, c.1.size ≤ 1000 := by
  obtain ⟨mb, v, xs, D, h1, h2, h3⟩ := h
  intro c hc
  obtain ⟨x, hx, rfl⟩ := List.mem_map.1 (h2.mem_iff.2 hc)
  exact h1.ks x hx
theorem wd_out (A : Option Addr) (c : Nat) (l : List S53) (now step : Int) (w : World) (hr : Kd.C k53 w A l.length l) (hc : l.length ≤ c) (r : Bool) (hl : turncocklaw22_light.f (2 * l.length + 2) l = some r) (h : r = false ∨ step < 1) :
    Calls Try.prog 6 #[.slice A l.length c, .int .i64 now, .int .i64 step] w fun e w' => e = .returned (.bool true) ∧ Frm (fun _ => False) w w' := by
  have HR := Aside0.mk hr
  have HL := Lib.hid hl
  clear hr hl
  cases r with
  | false =>
    clear h
    go_enter Try.func6, Try.ntmps6
    go_wp2_with fail
    (with_reducible refine (turncocklaw22_light.calls (2 * l.length + 2) A c l false _ HR.out hc HL.out).mono ?_); rintro e w1 ⟨rfl, q, rfl⟩
    go_wp2_with fail
    (with_reducible refine (wawake_any _).mono ?_); rintro e w3 ⟨rfl, hf3⟩
    have HF3 := Aside0.mk hf3
    clear hf3
    go_wp2
    go_ret
    exact ⟨rfl, ((Frm.refl _ w).drewN q).trans HF3.out⟩
  | true =>
    have hs : step < 1 := by rcases h with h | h; cases h; exact h
    have d1 : decide (step < 1) = true := decide_eq_true hs
    clear h hs
    go_enter Try.func6, Try.ntmps6
    go_wp2_with fail
    (with_reducible refine (turncocklaw22_light.calls (2 * l.length + 2) A c l true _ HR.out hc HL.out).mono ?_); rintro e w1 ⟨rfl, q, rfl⟩
    go_wp2_with fail
    (with_reducible refine (wawake_any _).mono ?_); rintro e w3 ⟨rfl, hf3⟩
    have HF3 := Aside0.mk hf3
    clear hf3
    go_wp2
    go_ret
    exact ⟨rfl, ((Frm.refl _ w).drewN q).trans HF3.out⟩
set_option maxHeartbeats 8000000 in
theorem wd_walk (A : Option Addr) (c : Nat) (l : List S53) (now step : Int) (w : World) (hr : Kd.C k53 w A l.length l) (hc : l.length ≤ c) (hl : turncocklaw22_light.f (2 * l.length + 2) l = some true) (h200 : l.length ≤ 200) (hsz : ∀ q, q < l.length → (l.getD q z53).f1.size ≤ 100) (hst : 1 ≤ step) :
    Calls Try.prog 6 #[.slice A l.length c, .int .i64 now, .int .i64 step] w fun e w' => e = .returned (.bool true) ∧ Frm (fun _ => False) w w' := by
  have HR := Aside0.mk hr
  have HL := Lib.hid hl
  have HS := Lib.hid hsz
  have HST := Lib.hid (show 1 ≤ step.toNat by omega)
  have d1 : decide (step < 1) = false := decide_eq_false (by omega)
  clear hr hl hsz
  go_enter Try.func6, Try.ntmps6
  go_wp2_with fail
  (with_reducible refine (turncocklaw22_light.calls (2 * l.length + 2) A c l true _ HR.out hc HL.out).mono ?_); rintro e w1 ⟨rfl, q, rfl⟩
  go_wp2_with fail
  (with_reducible refine (wnewB _).mono ?_); rintro e w1 ⟨p1, S1, rfl, hb⟩
  have HB := Aside0.mk (⟨hb.k, hb.lo, (((Frm.refl _ w).drewN q).trans hb.f)⟩ : WB w w1 S1 p1 [])
  clear hb
  go_wp2_with fail
  (with_reducible refine (wnew_any _).mono ?_); rintro e w2 ⟨p2, S2, rfl, h1, h2, h3, h4⟩
  have HP := Aside0.mk (w2_start HB.out h1 h3 h4)
  clear h1 h2 h3 h4 HB
  go_wp2
  go_loopw [9] (fun v9 wr => ∃ (i : Nat) (S1 S2 : Nat → Prop) (K : List KV), v9 = .int .i64 (i : Nat) ∧ i ≤ l.length ∧ Aside0 (W2 w wr S1 S2 p1 p2 K K ∧ K.length ≤ i)) (fun v9 _ => l.length - (intOf v9).toNat)
  case atStart => exact ⟨0, S1, S2, [], rfl, Nat.zero_le _, ⟨HP.out, Nat.zero_le _⟩⟩
  case round =>
    clear HP
    obtain ⟨i, S1, S2, K, rfl, hi, HI⟩ := hrel
    by_cases hlt : i < l.length
    · obtain ⟨ad, rfl, c0, c1, c2, c3⟩ := at_T53 HR.out (i : Int) (by omega) (by omega)
      have hks := HS.out i hlt
      have e9 : rd_T53 l (i : Int) = l.getD i z53 := by unfold rd_T53; rw [Int.toNat_natCast]
      rw [e9, Int.toNat_natCast] at c1 c2
      obtain ⟨x, hx⟩ : ∃ x, x = l.getD i z53 := ⟨_, rfl⟩
      rw [← hx] at c1 c2 hks
      obtain ⟨k, hk⟩ : ∃ k, k = x.f1 := ⟨_, rfl⟩
      obtain ⟨t, ht⟩ : ∃ t, t = x.f2 := ⟨_, rfl⟩
      rw [← hk] at c1 hks
      rw [← ht] at c2
      have HKS := Lib.hid hks
      have C1 := Lib.hid c1
      have C2 := Lib.hid c2
      have g1 := HI.out.1.f.cell c1 (fun e => e)
      have g2 := HI.out.1.f.cell c2 (fun e => e)
      have HKL := Lib.hid (show K.length < 9999 by have := HI.out.2; omega)
      have HKI := Lib.hid HI.out.2
      have HW := Aside0.mk HI.out.1
      clear e9 hx hk ht hks c0 c1 c2 c3 HI
      go_wp2
      go_region_with (first | (go_at_call 27; refine (W2.putA (by first | exact HW.out.drew | exact HW.out) k HKS.out t HKL.out).mono ?_; rintro e w3 ⟨rfl, S3, h3⟩; have HW3 := Aside0.mk h3; have q1 := h3.f.cell C1.out (fun e => e); have q2 := h3.f.cell C2.out (fun e => e); clear h3))
      all_goals go_wp2
      all_goals go_region_with (first | (go_at_call 27; refine (W2.putB (by first | exact HW3.out.drew | exact HW3.out) k HKS.out t HKL.out).mono ?_; rintro e w4 ⟨rfl, S4, h4⟩; have HW4 := Aside0.mk h4; clear h4))
      all_goals (go_wp2; go_roundw)
      all_goals first | (case rel => exact ⟨i + 1, S3, S4, dropK K k ++ [(k, t)], by go_num, by omega, ⟨HW4.out, by have := HKI.out; have := dropK_len K k; rw [List.length_append]; simp; omega⟩⟩) | skip
      all_goals (simp [intOf]; omega)
    · obtain rfl : i = l.length := by omega
      have l1 : decide ((l.length : Int) < (l.length : Int)) = false := decide_eq_false (by omega)
      have HW := Aside0.mk HI.out.1
      have HKI := Lib.hid HI.out.2
      have HSM := Lib.hid HI.out.1.a.small
      clear HI
      go_wp2_with fail
      (with_reducible refine (W2.dueA HW.out now ((l.length : Int) + 1)).mono ?_); rintro e w3 ⟨AA, cA, oA, KA, SA, rfl, hrA, hwA, hdA⟩
      have HRA := Aside0.mk hrA
      have HWA := Aside0.mk hwA
      have HDA := Lib.hid (show Dues now (l.length + 1) K oA KA from by have e : ((l.length : Int) + 1).toNat = l.length + 1 := by omega
                                                                        rw [e] at hdA; exact hdA)
      have HSZ := Lib.hid (show w.heap.size ≤ w3.heap.size from hwA.f.size)
      have HAO := Lib.hid (show ∀ b, some b = (Value.slice AA oA.length cA).ownBlock → b < w3.heap.size from fun b hb => ((Kd.R_bound hrA).1 b hb.symm).2.2.1)
      clear hrA hwA hdA HW
      go_wp2
      go_loopw [11, 12] (fun v11 v12 wr => ∃ (Ao : Option Addr) (co : Nat) (o : List ByteArray) (i : Nat) (S2 : Nat → Prop) (K2 : List KV), v11 = .slice Ao o.length co ∧ v12 = .int .i64 (i : Nat) ∧ i ≤ l.length + 1 ∧ Aside0 (W2 w wr SA S2 p1 p2 KA K2) ∧ Aside0 (Kd.R Kd.string 9 wr w3.heap.size (fun _ => True) (.slice Ao o.length co) o ∧ w3.heap.size ≤ wr.heap.size) ∧ Aside0 (∃ b, Kd.R Kd.string 9 wr b (fun _ => True) (.slice AA oA.length cA) oA) ∧ Aside0 (Prog now K o K2 i)) (fun _ v12 _ => l.length + 1 - (intOf v12).toNat)
      case atStart => exact ⟨none, 0, [], 0, S2, K, rfl, rfl, by omega, HWA, ⟨Kd.R_nil _ _ _ _ _, Nat.le_refl _⟩, ⟨_, HRA.out⟩, ⟨Prog.start now K⟩⟩
      case round =>
        clear HWA HRA
        obtain ⟨Ao, co, o, i, S2, K2, rfl, rfl, hi2, HWA, HRo, HRA, HPr⟩ := hrel
        have hol := HPr.out.olen
        have hkl := HKI.out
        by_cases hlt2 : i ≤ l.length
        · have l2 : decide ((i : Int) ≤ (l.length : Int)) = true := decide_eq_true (by omega)
          obtain ⟨bA, hbA⟩ := HRA.out
          have HbA := Aside0.mk hbA
          clear hbA
          go_wp2_with fail
          (with_reducible refine (W2.dueB HWA.out now step HRo.out.1 HbA.out).mono ?_); rintro e w4 ⟨A4, c4, o4, K4, S4, rfl, hr4, hw4, hd4, hro4, hra4, hs4⟩
          have HW4 := Aside0.mk hw4
          have HR4 := Aside0.mk (Kd.R_reads' hr4).2.2
          have HRo4 := Aside0.mk hro4
          have HRa4 := Aside0.mk hra4
          have HP4 := Lib.hid (HPr.out.step HST.out hd4)
          have hol4 := (HPr.out.step HST.out hd4).olen
          have HS4 := Lib.hid (show w3.heap.size ≤ w4.heap.size from Nat.le_trans HRo.out.2 hs4)
          rw [List.length_append] at hol4
          have hown : ∀ b, some b = (Value.slice Ao o.length co).ownBlock → (∃ cs, w4.heap[b]? = some (.cells cs 9 (0, 0))) ∧ w3.heap.size ≤ b := fun b hb => by
            obtain ⟨_, h1, _, q, hq, cells, hc⟩ := (Kd.R_bound hro4).1 b hb.symm
            have : q = 9 := by simpa [Kd.string, Kd.scalar] using hq
            subst this
            exact ⟨⟨cells, hc⟩, h1⟩
          have HOW := Lib.hid hown
          clear hr4 hw4 hd4 hro4 hra4 hs4 hown
          go_wp2_with (first | (at_builtin; refine Kd.R_append_rows Kd.string _ rfl (.tmp 77) (.tmp 81) 22 9 (.string ⟨#[]⟩) 16 rfl Try.underlying22 info_str rfl (by decide) (by omega) (.slice Ao o.length co) o o4 A4 o4.length c4 (fun _ => True) (fun _ => False) rfl rfl HRo4.out HR4.out (fun y cs hy => hy) (fun _ h => h.elim) (fun _ _ => trivial) (Below.refl _ _) HS4.out (by omega) ?_; intro v5 w5 hv5 hb5 hg5 hx5; obtain ⟨A5, c5, e5⟩ := Kd.R_slice hv5; subst e5; have HV5 := Aside0.mk hv5; have HG5 := Aside0.mk hg5; clear hv5 hb5 hg5 hx5))
          have hg5 := HG5.out
          have hall5 := Kd.R_grown2 HRa4.out rfl hg5 (fun k hk e => by have h1 := (HOW.out k hk.symm).2; have h2 := HAO.out k e; omega)
          exact ⟨⟨A5, c5, o ++ o4, i + 1, S4, K4, by simp, by simp, by omega, ⟨HW4.out.movedG hg5 (fun b hb => ⟨(HOW.out b hb).1, by have := (HOW.out b hb).2; have := HSZ.out; omega⟩)⟩, ⟨HV5.out, Nat.le_trans HS4.out hg5.size⟩, ⟨_, hall5⟩, ⟨HP4.out⟩⟩, by simp [intOf]; omega⟩
        · obtain rfl : i = l.length + 1 := by omega
          have l2 : decide (((l.length + 1 : Nat) : Int) ≤ (l.length : Int)) = false := decide_eq_false (by omega)
          have l3 : decide ((l.length : Int) + 1 ≤ (l.length : Int)) = false := decide_eq_false (by omega)
          obtain ⟨rfl, hpm, hst2, hgone⟩ := HPr.out.end_ HKI.out HDA.out
          obtain ⟨bA, hbA⟩ := HRA.out
          obtain ⟨a, t, b, hnk⟩ := ex_next HWA.out.b
          have HNK := Lib.hid hnk
          have HPM := Lib.hid hpm
          have HGO := Lib.hid hgone
          have HSN := Lib.hid (hst2.next hnk)
          have HMEM := Lib.hid (show ∀ k ∈ oA, k.size ≤ 1000 from fun k hk => by obtain ⟨c, hc, rfl⟩ := HPr.out.mem k hk; exact HSM.out c hc)
          have HbA := Aside0.mk hbA
          have hol2 : oA.length ≤ 200 := by omega
          clear hpm hst2 hgone hnk hbA
          go_wp2_with fail
          (with_reducible refine (W2.nextB HWA.out HNK.out).mono ?_); rintro e w5 ⟨rfl, nn, rfl⟩
          have HW5 := Aside0.mk (HWA.out.drewN nn)
          have HR5 : Aside0 (Kd.R Kd.string 9 (World.drewN _ nn) w3.heap.size (fun _ => True) (.slice Ao oA.length co) oA) := ⟨Kd.R_move HRo.out.1 (fun _ _ => rfl)⟩
          have HA5 : Aside0 (Kd.R Kd.string 9 (World.drewN _ nn) bA (fun _ => True) (.slice AA oA.length cA) oA) := ⟨Kd.R_move HbA.out (fun _ _ => rfl)⟩
          go_wp2
          go_loopw [16] (fun v16 wr3 => ∃ (j : Nat), v16 = .int .i64 (j : Nat) ∧ j ≤ oA.length ∧ Aside0 (W2 w wr3 SA S2 p1 p2 KA K2) ∧ Aside0 (Kd.R Kd.string 9 wr3 w3.heap.size (fun _ => True) (.slice Ao oA.length co) oA) ∧ Aside0 (Kd.R Kd.string 9 wr3 bA (fun _ => True) (.slice AA oA.length cA) oA)) (fun v16 _ => oA.length - (intOf v16).toNat)
          case atStart => exact ⟨0, rfl, Nat.zero_le _, HW5, HR5, HA5⟩
          case round =>
            clear HW5 HR5 HA5 HWA HRo HRA HbA
            obtain ⟨j, rfl, hj, HW5, HR5, HA5⟩ := hrel
            by_cases hlt3 : j < oA.length
            · obtain ⟨ad, kx, rfl, hkm, hkc⟩ := strs_at HR5.out j hlt3
              have hks := Lib.hid (HMEM.out kx hkm)
              have hkg := Lib.hid (HGO.out kx hkm)
              clear hkm
              go_wp2_with fail
              (with_reducible refine (W2.atB HW5.out kx hks.out hkg.out).mono ?_); rintro e w6 ⟨tx, rfl, rfl⟩
              go_wp2
              go_roundw
              case rel => exact ⟨j + 1, by go_num, by omega, HW5, HR5, HA5⟩
              case measure => simp [intOf]; omega
            · obtain rfl : j = oA.length := by omega
              have l4 : decide ((oA.length : Int) < (oA.length : Int)) = false := decide_eq_false (by omega)
              have l5 : ((K2.length : Int) == (K2.length : Int)) = true := by simp
              have hOM := Lib.hid (show oA.length ≤ 1000000 by omega)
              have fin : ∀ {w7 w8 : World}, W2 w w7 SA S2 p1 p2 KA K2 → Frm (fun _ => False) w7 w8 → Frm (fun _ => False) w w8 := fun h k => h.f.trans k
              rcases HSN.out with hb0 | ht0
              · subst hb0
                go_wp2_with fail
                (with_reducible refine (texts_same hOM.out HA5.out HR5.out).mono ?_); rintro e w7 ⟨rfl, n7, rfl⟩
                have HW7 := Aside0.mk (HW5.out.drewN n7)
                go_wp2_with fail
                (with_reducible refine (W2.lenA HW7.out HPM.out).mono ?_); rintro e w8 ⟨rfl, rfl⟩
                go_wp2_with fail
                (with_reducible refine (W2.lenB HW7.out).mono ?_); rintro e w8 ⟨rfl, rfl⟩
                go_wp2_with fail
                (with_reducible refine (wawake_any _).mono ?_); rintro e w9 ⟨rfl, hf9⟩
                have HF9 := Aside0.mk (HW7.out.f.trans hf9)
                clear hf9
                go_wp2
                go_ret
                exact ⟨rfl, HF9.out⟩
              · have l6 : decide (now < t) = true := decide_eq_true ht0
                cases b with
                | false =>
                  go_wp2_with fail
                  (with_reducible refine (texts_same hOM.out HA5.out HR5.out).mono ?_); rintro e w7 ⟨rfl, n7, rfl⟩
                  have HW7 := Aside0.mk (HW5.out.drewN n7)
                  go_wp2_with fail
                  (with_reducible refine (W2.lenA HW7.out HPM.out).mono ?_); rintro e w8 ⟨rfl, rfl⟩
                  go_wp2_with fail
                  (with_reducible refine (W2.lenB HW7.out).mono ?_); rintro e w8 ⟨rfl, rfl⟩
                  go_wp2_with fail
                  (with_reducible refine (wawake_any _).mono ?_); rintro e w9 ⟨rfl, hf9⟩
                  have HF9 := Aside0.mk (HW7.out.f.trans hf9)
                  clear hf9
                  go_wp2
                  go_ret
                  exact ⟨rfl, HF9.out⟩
                | true =>
                  go_wp2_with fail
                  (with_reducible refine (texts_same hOM.out HA5.out HR5.out).mono ?_); rintro e w7 ⟨rfl, n7, rfl⟩
                  have HW7 := Aside0.mk (HW5.out.drewN n7)
                  go_wp2_with fail
                  (with_reducible refine (W2.lenA HW7.out HPM.out).mono ?_); rintro e w8 ⟨rfl, rfl⟩
                  go_wp2_with fail
                  (with_reducible refine (W2.lenB HW7.out).mono ?_); rintro e w8 ⟨rfl, rfl⟩
                  go_wp2_with fail
                  (with_reducible refine (wawake_any _).mono ?_); rintro e w9 ⟨rfl, hf9⟩
                  have HF9 := Aside0.mk (HW7.out.f.trans hf9)
                  clear hf9
                  go_wp2
                  go_ret
                  exact ⟨rfl, HF9.out⟩
end Go.Proofs.Ytjgoddieamphpaa.Wh
