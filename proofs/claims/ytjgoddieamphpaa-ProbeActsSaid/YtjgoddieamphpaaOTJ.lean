/- probe.Table[int]: Drop. -/
import Derived.Test.YtjgoddieamphpaaOTI
import Derived.Deep.QuietTactic
import Derived.BigQuiet
namespace Go.Proofs.Ytjgoddieamphpaa.Obj
open Go.RowKit Go.Proofs.YtjgoddieamphpaaW.PrintWords Go.Proofs.YtjgoddieamphpaaW.PrintLast Probe
set_option maxRecDepth 100000
set_option linter.unusedVariables false
theorem idrop_miss {p b most : Nat} {sl : List (Option (Ent Int))} {w : World} {key : ByteArray} (HT : TabI w p b most sl) (hs : key.size ≤ 9223372036854775807) (hm : ∀ v, (key, v) ∉ items sl) :
    Calls Try.prog 22 #[.pointer (some ⟨p, 0, none⟩), .string key] w fun e w' => e = .returned (.bool false) ∧ w = w' := by
  have HM := Lib.hid hm
  clear hm
  have HT := Aside0.mk HT
  go_enter Try.func22, Try.ntmps22
  go_wp2_with fail
  (with_reducible refine (iat_miss HT.out hs HM.out).mono ?_); rintro e w' ⟨rfl, rfl⟩
  go_wp2
  go_ret
  exact ⟨rfl, rfl⟩
theorem idrop_start {p b most : Nat} {sl : List (Option (Ent Int))} {w : World} {key : ByteArray} (HT : TabI w p b most sl) {i : Nat} {v : Int} (he : at_ sl i = some (key, v)) (hi : i < 2 * most) :
    ∃ z, Drp (α := Int) (Value.int .i64) (.int .i64 0) 101 103 w w p b most (items sl).length (items (sl.set i none)) sl i 1 z ∧ (items sl).length = (items (sl.set i none)).length + 1 := by
  have e1 := items_out sl i _ he
  have hlen : (items sl).length = (items (sl.set i none)).length + 1 := by rw [e1.length_eq]; rfl
  obtain ⟨z, hz1, hz2⟩ := free_ex sl (by rw [HT.len]; exact HT.free)
  rw [HT.len] at hz1
  have := HT.room; have := HT.pos
  exact ⟨z, ⟨HT.hd, HT.bk, Hole.start HT.wf hi he, List.Perm.refl _, by omega, hz1, hz2, ⟨_, he⟩, fun j x hx => HT.keys x (present (k := x.1) (v := x.2) hx), Frm.refl _ _⟩, hlen⟩
theorem idrop_hit {p b most : Nat} {sl : List (Option (Ent Int))} {w : World} {key : ByteArray} (HT : TabI w p b most sl) (hs : key.size ≤ 9223372036854775807) {i0 : Nat} {v0 : Int} (he : at_ sl i0 = some (key, v0)) (hi : i0 < 2 * most) :
    Calls Try.prog 22 #[.pointer (some ⟨p, 0, none⟩), .string key] w fun e w' => e = .returned (.bool true) ∧ (∃ sl', TabI w' p b most sl' ∧ (items sl').Perm (items (sl.set i0 none))) ∧ Frm (fun k => k = p ∨ k = b) w w' := by
  have HE := Lib.hid he
  have hN : 2 * most ≤ 10000 := by have := HT.big; omega
  have hn : 0 < 2 * most := by omega
  have hpb : p ≠ b := HT.ne (by decide)
  obtain ⟨z, hd0, hlen⟩ := idrop_start HT he hi
  have HD0 := Aside0.mk hd0
  have HL := Lib.hid hlen
  have HC := Lib.hid (show (items (sl.set i0 none)).length ≤ most by have := HT.room; omega)
  have HP := Lib.hid HT.pos
  have HB := Lib.hid HT.big
  clear hd0 hlen he
  have hc2 := HT.c2
  have HT := Aside0.mk HT
  have hlt : decide ((i0 : Int) < 0) = false := decide_eq_false (by omega)
  have E1 := Lib.hid (show (i0 + 1) % (2 * most) = cyc (2 * most) (i0 + 1) from mod_cyc _ _ (by omega))
  go_enter Try.func22, Try.ntmps22
  go_wp2_with fail
  (with_reducible refine (iat_hit HT.out hs HE.out hi).mono ?_); rintro e w' ⟨rfl, rfl⟩
  go_wp2_with fail
  (with_reducible refine (inext_any p b (2 * most) i0 _ hc2 hi hN).mono ?_); rintro e w' ⟨rfl, rfl⟩
  rw [E1.out]
  clear hlt
  go_wp2
  go_loopg [5, 6] (2 * most) (fun kq v5 v6 wr => ∃ (sl2 : List (Option (Ent Int))) (f e : Nat), v5 = .int .i64 (f : Nat) ∧ v6 = .int .i64 (cyc (2 * most) (f + e) : Nat) ∧ Aside0 (Drp (α := Int) (Value.int .i64) (.int .i64 0) 101 103 w wr p b most (items sl).length (items (sl.set i0 none)) sl2 f e z ∧ dist (2 * most) (cyc (2 * most) (f + e)) z < kq))
  case atStart => exact ⟨sl, i0, 1, rfl, rfl, ⟨HD0.out, by have := HD0.out.iN; have := HD0.out.zN; unfold dist; exact cyc_lt (by omega)⟩⟩
  case round =>
    obtain ⟨sl2, f, e, rfl, rfl, HD⟩ := hrel
    have hiN := HD.out.1.iN
    have hfN := HD.out.1.hole.fN
    have hc2 := HD.out.1.c2
    have hc1 := HD.out.1.c1
    have fz : wr.frozen? ⟨p, 1, none⟩ = false := blk_frozen HD.out.1.hd 1
    have hf : ∀ j, wr.frozen? ⟨b, j, none⟩ = false := fun j => blk_frozen HD.out.1.bk j
    have f0 := hf (f * 3)
    have f1 := hf (f * 3 + 1)
    have f2 := hf (f * 3 + 2)
    clear hf
    obtain ⟨a0, a1, a2, hq0, hq1, hq2⟩ := HD.out.1.old_at
    cases hx : at_ sl2 (cyc (2 * most) (f + e)) with
    | none =>
      have HX := Lib.hid hx
      have h0 := HD.out.1.none_at hiN hx
      clear hx
      generalize hci : cyc (2 * most) (f + e) = i at *
      have HI := Lib.hid hci
      clear hci
      go_wp2
      go_ret
      exact ⟨rfl, ⟨sl2.set f none, HD.out.1.done (by decide) (by rw [HI.out]; exact HX.out) HL.out HP.out HB.out HC.out rfl _ (by have := HL.out; have := HC.out; have := HB.out; unfold wrap64; omega), HD.out.1.perm⟩, HD.out.1.frm.trans ((frm3 wr p b f _ _ _).setCell (.inl (.inl rfl)) _)⟩
    | some x =>
      obtain ⟨k2, v⟩ := x
      have HX := Lib.hid hx
      have hks := HD.out.1.keys _ _ hx
      obtain ⟨h0, h1, h2⟩ := HD.out.1.some_at hiN hx
      have HDE := Lib.hid (dist_at (2 * most) f e hfN HD.out.1.e_lt)
      have HNX := Lib.hid (cyc_next (2 * most) f e hfN HD.out.1.e_lt)
      have hsm := slotN_lt k2 (2 * most) hn
      have hzi : cyc (2 * most) (f + e) ≠ z := by
        intro hh; have := HD.out.1.zf; rw [← hh, hx] at this; cases this
      have HLE := Lib.hid (dist_less (2 * most) _ z hiN HD.out.1.zN hzi)
      clear hx hzi
      by_cases hd : dist (2 * most) (slotN k2 (2 * most)) (cyc (2 * most) (f + e)) < e
      · have HST := Aside0.mk (HD.out.1.stay HX.out hd)
        have g1 : decide ((e : Int) ≤ (dist (2 * most) (slotN k2 (2 * most)) (cyc (2 * most) (f + e)) : Nat)) = false := decide_eq_false (by omega)
        have g2 : decide (e ≤ dist (2 * most) (slotN k2 (2 * most)) (cyc (2 * most) (f + e))) = false := decide_eq_false (by omega)
        have HCY := Lib.hid (show cyc (2 * most) (f + e) = cyc (2 * most) (f + e) from rfl)
        generalize hci : cyc (2 * most) (f + e) = i at *
        have HI := Lib.hid hci
        clear hci hd HCY
        generalize hdd : dist (2 * most) (slotN k2 (2 * most)) i = D at *
        have HDD := Lib.hid hdd
        clear hdd
        go_wp2_with fail
        (with_reducible refine (ihome_any p b (2 * most) k2 _ hc2 hks hn hN).mono ?_); rintro e1 w1 ⟨rfl, rfl⟩
        go_wp2_with fail
        (with_reducible refine (iaway_any p b (2 * most) _ i _ hc2 hsm hiN hN).mono ?_); rintro e1 w1 ⟨rfl, n1, rfl⟩
        rw [HDD.out]
        go_wp2_with fail
        (with_reducible refine (iaway_any p b (2 * most) f i _ (c_drewN hc2 n1) hfN hiN hN).mono ?_); rintro e1 w1 ⟨rfl, n2, rfl⟩
        rw [HDE.out]
        go_wp2_with fail
        (with_reducible refine (inext_any p b (2 * most) i _ (c_drewN hc2 (n1 + n2)) hiN hN).mono ?_); rintro e1 w1 ⟨rfl, rfl⟩
        rw [HNX.out]
        go_wp2
        go_roundg (gk - 1)
        case measure => have := HD.out.2; omega
        case rel => exact ⟨sl2, f, e + 1, rfl, rfl, ⟨HST.out.drewN (n1 + n2), by have := HD.out.2; have := HLE.out; rw [HNX.out] at this; omega⟩⟩
      · have hd' : e ≤ dist (2 * most) (slotN k2 (2 * most)) (cyc (2 * most) (f + e)) := by omega
        have g1 : decide ((e : Int) ≤ (dist (2 * most) (slotN k2 (2 * most)) (cyc (2 * most) (f + e)) : Nat)) = true := decide_eq_true (by omega)
        have g2 : decide (e ≤ dist (2 * most) (slotN k2 (2 * most)) (cyc (2 * most) (f + e))) = true := decide_eq_true (by omega)
        have HDP := Lib.hid hd'
        clear hd hd'
        have HI2 := Lib.hid (show ∀ j, cyc (2 * most) (f + e) = j → cyc (2 * most) (f + e) = j from fun _ h => h)
        generalize hci : cyc (2 * most) (f + e) = i at *
        have HI := Lib.hid hci
        clear hci HI2
        generalize hdd : dist (2 * most) (slotN k2 (2 * most)) i = D at *
        have HDD := Lib.hid hdd
        clear hdd
        go_wp2_with fail
        (with_reducible refine (ihome_any p b (2 * most) k2 _ hc2 hks hn hN).mono ?_); rintro e1 w1 ⟨rfl, rfl⟩
        go_wp2_with fail
        (with_reducible refine (iaway_any p b (2 * most) _ i _ hc2 hsm hiN hN).mono ?_); rintro e1 w1 ⟨rfl, n1, rfl⟩
        rw [HDD.out]
        go_wp2_with fail
        (with_reducible refine (iaway_any p b (2 * most) f i _ (c_drewN hc2 n1) hfN hiN hN).mono ?_); rintro e1 w1 ⟨rfl, n2, rfl⟩
        rw [HDE.out]
        go_wp2
        go_region
        have HSH := Aside0.mk (HD.out.1.shift (w1 := ((((wr.drewN (n1 + n2 + 1)).setCell ⟨b, f * 3, none⟩ (.bool true)).setCell ⟨b, f * 3 + 1, none⟩ (.string k2)).setCell ⟨b, f * 3 + 2, none⟩ (Value.int .i64 v))) (by decide) (by rw [HI.out]; exact HX.out) (by rw [HI.out, HDD.out]; exact HDP.out) rfl (((((Frm.refl _ wr).drewN _).setCell (.inl (.inr rfl)) _).setCell (.inl (.inr rfl)) _).setCell (.inl (.inr rfl)) _))
        rw [HI.out] at HSH
        have HN2 := Lib.hid (show (i + 1) % (2 * most) = cyc (2 * most) (i + 1) from mod_cyc _ _ (by omega))
        have hcx := HSH.out.c2
        go_wp2_with fail
        (with_reducible refine (inext_any p b (2 * most) i _ hcx hiN hN).mono ?_); rintro e1 w1 ⟨rfl, rfl⟩
        rw [HN2.out]
        go_wp2
        go_roundg (gk - 1)
        case measure => have := HD.out.2; omega
        case rel => exact ⟨sl2.set f (some (k2, v)), i, 1, rfl, rfl, ⟨HSH.out, by have := HD.out.2; have := HLE.out; rw [HN2.out] at this; omega⟩⟩

end Go.Proofs.Ytjgoddieamphpaa.Obj
