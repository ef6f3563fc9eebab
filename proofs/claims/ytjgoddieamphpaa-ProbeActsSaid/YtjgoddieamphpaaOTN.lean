/- probe.Table[string]. -/
import Derived.Test.YtjgoddieamphpaaOTJ
import Derived.Deep.QuietTactic
import Derived.BigQuiet
namespace Go.Proofs.Ytjgoddieamphpaa.Obj
open Go.RowKit Go.Proofs.YtjgoddieamphpaaW.PrintWords Go.Proofs.YtjgoddieamphpaaW.PrintLast Probe
set_option maxRecDepth 100000
set_option linter.unusedVariables false
theorem snext_any (p b : Nat) (N i : Nat) (w : World) (hc2 : w.cell? ⟨p, 2, none⟩ = some (.slice (some ⟨b, 0, none⟩) N N)) (hi : i < N) (hN : N ≤ 10000) :
    Calls Try.prog 85 #[.pointer (some ⟨p, 0, none⟩), .int .i64 (i : Int)] w fun e w' => e = .returned (.int .i64 (((i + 1) % N : Nat) : Int)) ∧ w = w' := by
  have e1 : ((N : Int) == 0) = false := by simp; omega
  go_enter Try.func85, Try.ntmps85
  go_wp2
  go_ret
  exact ⟨by simp, rfl⟩
theorem shome_any (p b : Nat) (N : Nat) (s : ByteArray) (w : World) (hc2 : w.cell? ⟨p, 2, none⟩ = some (.slice (some ⟨b, 0, none⟩) N N)) (hs : s.size ≤ 9223372036854775807) (hn : 0 < N) (hN : N ≤ 10000) :
    Calls Try.prog 84 #[.pointer (some ⟨p, 0, none⟩), .string s] w fun e w' => e = .returned (.int .i64 (slotN s N : Nat)) ∧ w = w' := by
  go_enter Try.func84, Try.ntmps84
  go_wp2_with fail
  (with_reducible refine (slot_any s N _ hs hn hN).mono ?_); rintro e w' ⟨rfl, rfl⟩
  go_wp2
  go_ret
  exact ⟨rfl, rfl⟩
theorem swalk_any {p b most : Nat} {sl : List (Option (Ent ByteArray))} {w : World} (key : ByteArray) (HT : TabS w p b most sl) (hs : key.size ≤ 9223372036854775807) :
    Calls Try.prog 64 #[.pointer (some ⟨p, 0, none⟩), .string key] w fun e w' => ∃ d, d < 2 * most ∧ e = .returned (.int .i64 (cyc (2 * most) (slotN key (2 * most) + d) : Nat)) ∧ w = w' ∧
      Passed (fun k => slotN k (2 * most)) (2 * most) sl key d ∧ (at_ sl (cyc (2 * most) (slotN key (2 * most) + d)) = none ∨ ∃ v, at_ sl (cyc (2 * most) (slotN key (2 * most) + d)) = some (key, v)) := by
  have hn : 0 < 2 * most := by have := HT.pos; omega
  have hN : 2 * most ≤ 10000 := by have := HT.big; omega
  have hc2 := HT.c2
  have hH := slotN_lt key (2 * most) hn
  have HT := Aside0.mk HT
  go_enter Try.func64, Try.ntmps64
  go_wp2_with fail
  (with_reducible refine (shome_any p b (2 * most) key _ hc2 hs hn hN).mono ?_); rintro e w' ⟨rfl, rfl⟩
  go_wp2
  go_loopg [5] (2 * most) (fun kq v5 w' => ∃ d : Nat, v5 = .int .i64 (cyc (2 * most) (slotN key (2 * most) + d) : Nat) ∧ Aside0 (kq + d = 2 * most ∧ d < 2 * most ∧ Passed (fun k => slotN k (2 * most)) (2 * most) sl key d) ∧ w = w')
  case atStart => exact ⟨0, by rw [Nat.add_zero, show cyc (2 * most) (slotN key (2 * most)) = slotN key (2 * most) from if_pos hH], ⟨by omega, hn, fun j hj => by omega⟩, rfl⟩
  case round =>
    obtain ⟨d, rfl, HD, rfl⟩ := hrel
    have hi : cyc (2 * most) (slotN key (2 * most) + d) < 2 * most := cyc_lt (by have := HD.out.2.1; omega)
    cases hx : at_ sl (cyc (2 * most) (slotN key (2 * most) + d)) with
    | none =>
      have HX := Lib.hid hx
      obtain ⟨h0, h1, h2⟩ := HT.out.none_at hi hx
      clear h1 h2 hx
      generalize hc : cyc (2 * most) (slotN key (2 * most) + d) = i at *
      go_wp2
      go_ret
      exact ⟨d, HD.out.2.1, by rw [hc]; rfl, rfl, HD.out.2.2, .inl (by rw [hc]; exact HX.out)⟩
    | some x =>
      obtain ⟨k2, v⟩ := x
      have HX := Lib.hid hx
      obtain ⟨h0, h1, h2⟩ := HT.out.some_at hi hx
      clear h2 hx
      by_cases hk : k2 = key
      · subst hk
        generalize hc : cyc (2 * most) (slotN k2 (2 * most) + d) = i at *
        have HC := Lib.hid hc
        clear hc
        go_wp2
        go_ret
        exact ⟨d, HD.out.2.1, by rw [HC.out]; rfl, rfl, HD.out.2.2, .inr ⟨v, by rw [HC.out]; exact HX.out⟩⟩
      · have HP : Aside0 (d + 1 < 2 * most ∧ Passed (fun k => slotN k (2 * most)) (2 * most) sl key (d + 1)) := by
          have hp : Passed (fun k => slotN k (2 * most)) (2 * most) sl key (d + 1) := by
            intro j hj
            by_cases hjd : j = d
            · subst hjd; exact ⟨k2, v, HX.out, hk⟩
            · exact HD.out.2.2 j (by omega)
          exact ⟨passed_lt HT.out.wf HT.out.free (by have := HD.out.2.1; omega) hp, hp⟩
        have b1 : (k2.toList == key.toList) = false := by simpa using bytes_ne hk
        have b2 : (k2.toList != key.toList) = true := by simpa using bytes_ne hk
        have HS := Lib.hid (cyc_step (2 * most) (slotN key (2 * most)) d hH (HP.out.1))
        clear hk
        generalize hc : cyc (2 * most) (slotN key (2 * most) + d) = i at *
        have HC := Lib.hid hc
        clear hc
        go_wp2_with fail
        (with_reducible refine (snext_any p b (2 * most) i _ hc2 hi hN).mono ?_); rintro e w' ⟨rfl, rfl⟩
        go_wp2
        go_roundg (gk - 1)
        case measure => have := HD.out; omega
        case rel => exact ⟨d + 1, by rw [← HS.out]; simp, ⟨by have := HD.out; omega, HP.out.1, HP.out.2⟩, rfl⟩

theorem shit_eq {p b most : Nat} {sl : List (Option (Ent ByteArray))} {w : World} {key : ByteArray} (HT : TabS w p b most sl) {i : Nat} {v : ByteArray} (he : at_ sl i = some (key, v)) {d : Nat} (hd : d < 2 * most)
    (hp : Passed (fun k => slotN k (2 * most)) (2 * most) sl key d) (h : at_ sl (cyc (2 * most) (slotN key (2 * most) + d)) = none ∨ ∃ v, at_ sl (cyc (2 * most) (slotN key (2 * most) + d)) = some (key, v)) : cyc (2 * most) (slotN key (2 * most) + d) = i := by
  rcases h with h | ⟨v', h⟩
  · exact absurd (present he) (absent HT.wf hd hp h v)
  · exact HT.wf.inj h he
theorem smiss_eq {p b most : Nat} {sl : List (Option (Ent ByteArray))} {w : World} {key : ByteArray} (HT : TabS w p b most sl) (hm : ∀ v, (key, v) ∉ items sl) {d : Nat}
    (h : at_ sl (cyc (2 * most) (slotN key (2 * most) + d)) = none ∨ ∃ v, at_ sl (cyc (2 * most) (slotN key (2 * most) + d)) = some (key, v)) : at_ sl (cyc (2 * most) (slotN key (2 * most) + d)) = none := by
  rcases h with h | ⟨v', h⟩
  · exact h
  · exact absurd (present h) (hm v')
theorem sat_hit {p b most : Nat} {sl : List (Option (Ent ByteArray))} {w : World} {key : ByteArray} (HT : TabS w p b most sl) (hs : key.size ≤ 9223372036854775807) {i : Nat} {v : ByteArray} (he : at_ sl i = some (key, v)) (hi : i < 2 * most) :
    Calls Try.prog 66 #[.pointer (some ⟨p, 0, none⟩), .string key] w fun e w' => e = .returned (.int .i64 (i : Nat)) ∧ w = w' := by
  have HE := Lib.hid he
  have hc2 := HT.c2
  obtain ⟨h0, h1, h2⟩ := HT.some_at hi he
  clear h1 h2 he
  have HT := Aside0.mk HT
  go_enter Try.func66, Try.ntmps66
  go_wp2_with fail
  (with_reducible refine (swalk_any key HT.out hs).mono ?_); rintro e w' ⟨d, hd, rfl, rfl, hp, hx⟩
  obtain hh := shit_eq HT.out HE.out hd hp hx
  rw [hh]
  clear hh hp hx hd
  go_wp2
  go_ret
  exact ⟨rfl, rfl⟩
theorem sat_miss {p b most : Nat} {sl : List (Option (Ent ByteArray))} {w : World} {key : ByteArray} (HT : TabS w p b most sl) (hs : key.size ≤ 9223372036854775807) (hm : ∀ v, (key, v) ∉ items sl) :
    Calls Try.prog 66 #[.pointer (some ⟨p, 0, none⟩), .string key] w fun e w' => e = .returned (.int .i64 (-1)) ∧ w = w' := by
  have HM := Lib.hid hm
  clear hm
  have hc2 := HT.c2
  have hn : 0 < 2 * most := by have := HT.pos; omega
  have hH := slotN_lt key (2 * most) hn
  have HT := Aside0.mk HT
  go_enter Try.func66, Try.ntmps66
  go_wp2_with fail
  (with_reducible refine (swalk_any key HT.out hs).mono ?_); rintro e w' ⟨d, hd, rfl, rfl, hp, hx⟩
  have hx := smiss_eq HT.out HM.out hx
  have hi : cyc (2 * most) (slotN key (2 * most) + d) < 2 * most := cyc_lt (by omega)
  obtain ⟨h0, h1, h2⟩ := HT.out.none_at hi hx
  clear h1 h2 hx hp hd
  generalize cyc (2 * most) (slotN key (2 * most) + d) = i at *
  go_wp2
  go_ret
  exact ⟨rfl, rfl⟩
theorem sat_nil (key : ByteArray) (w : World) :
    Calls Try.prog 66 #[.pointer none, .string key] w fun e w' => e = .returned (.int .i64 (-1)) ∧ w = w' := by
  go_enter Try.func66, Try.ntmps66
  go_wp2
  go_ret
  exact ⟨rfl, rfl⟩
theorem slen_any {p b most : Nat} {sl : List (Option (Ent ByteArray))} {w : World} (HT : TabS w p b most sl) :
    Calls Try.prog 19 #[.pointer (some ⟨p, 0, none⟩)] w fun e w' => e = .returned (.int .i64 ((items sl).length : Nat)) ∧ w = w' := by
  have hc1 := HT.c1
  go_enter Try.func19, Try.ntmps19
  go_wp2
  go_ret
  exact ⟨rfl, rfl⟩
theorem slen_nil (w : World) :
    Calls Try.prog 19 #[.pointer none] w fun e w' => e = .returned (.int .i64 0) ∧ w = w' := by
  go_enter Try.func19, Try.ntmps19
  go_wp2
  go_ret
  exact ⟨rfl, rfl⟩
theorem sput_nil (key : ByteArray) (v : ByteArray) (w : World) :
    Calls Try.prog 15 #[.pointer none, .string key, Value.string v] w fun e w' => e = .returned (.int .i64 6) ∧ w = w' := by
  go_enter Try.func15, Try.ntmps15
  go_wp2
  go_ret
  exact ⟨rfl, rfl⟩
theorem sget_hit {p b most : Nat} {sl : List (Option (Ent ByteArray))} {w : World} {key : ByteArray} (HT : TabS w p b most sl) (hs : key.size ≤ 9223372036854775807) {i : Nat} {v : ByteArray} (he : at_ sl i = some (key, v)) (hi : i < 2 * most) :
    Calls Try.prog 17 #[.pointer (some ⟨p, 0, none⟩), .string key] w fun e w' => e = .returned (.tuple #[Value.string v, .bool true]) ∧ w = w' := by
  have HE := Lib.hid he
  have hc2 := HT.c2
  obtain ⟨h0, h1, h2⟩ := HT.some_at hi he
  clear h1 h0 he
  have HT := Aside0.mk HT
  have hlt : ¬ ((i : Int) < 0) := by omega
  go_enter Try.func17, Try.ntmps17
  go_wp2_with fail
  (with_reducible refine (sat_hit HT.out hs HE.out hi).mono ?_); rintro e w' ⟨rfl, rfl⟩
  go_wp2
  go_ret2
  exact ⟨rfl, rfl⟩
theorem sget_miss {p b most : Nat} {sl : List (Option (Ent ByteArray))} {w : World} {key : ByteArray} (HT : TabS w p b most sl) (hs : key.size ≤ 9223372036854775807) (hm : ∀ v, (key, v) ∉ items sl) :
    Calls Try.prog 17 #[.pointer (some ⟨p, 0, none⟩), .string key] w fun e w' => e = .returned (.tuple #[.string ⟨#[]⟩, .bool false]) ∧ w = w' := by
  have HM := Lib.hid hm
  clear hm
  have HT := Aside0.mk HT
  go_enter Try.func17, Try.ntmps17
  go_wp2_with fail
  (with_reducible refine (sat_miss HT.out hs HM.out).mono ?_); rintro e w' ⟨rfl, rfl⟩
  go_wp2
  go_ret2
  exact ⟨rfl, rfl⟩

theorem sput_hit {p b most : Nat} {sl : List (Option (Ent ByteArray))} {w : World} {key : ByteArray} (HT : TabS w p b most sl) (hs : key.size ≤ 9223372036854775807) (v' : ByteArray) {i : Nat} {v : ByteArray} (he : at_ sl i = some (key, v)) (hi : i < 2 * most) :
    Calls Try.prog 15 #[.pointer (some ⟨p, 0, none⟩), .string key, Value.string v'] w fun e w' => e = .returned (.int .i64 0) ∧ TabS w' p b most (sl.set i (some (key, v'))) ∧ Frm (fun k => k = p ∨ k = b) w w' := by
  have HE := Lib.hid he
  have hc2 := HT.c2
  obtain ⟨h0, h1, h2⟩ := HT.some_at hi he
  clear he
  have hf : ∀ j, w.frozen? ⟨b, j, none⟩ = false := fun j => blk_frozen HT.bk j
  have f0 := hf (i * 3)
  have f1 := hf (i * 3 + 1)
  have f2 := hf (i * 3 + 2)
  clear hf
  have HT := Aside0.mk HT
  go_enter Try.func15, Try.ntmps15
  go_wp2_with fail
  (with_reducible refine (swalk_any key HT.out hs).mono ?_); rintro e w' ⟨d, hd, rfl, rfl, hp, hx⟩
  obtain hh := shit_eq HT.out HE.out hd hp hx
  rw [hh]
  clear hh hp hx hd
  go_wp2
  go_ret
  exact ⟨rfl, HT.out.store i (some (key, v')) _ _ _ rfl hi (by decide) (by have := (items_upd HT.out.wf HE.out hi v').2; rw [this]) (HT.out.wf.upd HE.out hi) (by have := (items_upd HT.out.wf HE.out hi v').2; rw [this]; exact HT.out.room) (by intro x hx; rcases (items_upd HT.out.wf HE.out hi v').1 x hx with rfl | hx; exact hs; exact HT.out.keys x hx), frm3 _ _ _ _ _ _ _⟩
theorem sput_full {p b most : Nat} {sl : List (Option (Ent ByteArray))} {w : World} {key : ByteArray} (HT : TabS w p b most sl) (hs : key.size ≤ 9223372036854775807) (v' : ByteArray) (hm : ∀ v, (key, v) ∉ items sl) (hfull : most ≤ (items sl).length) :
    Calls Try.prog 15 #[.pointer (some ⟨p, 0, none⟩), .string key, Value.string v'] w fun e w' => e = .returned (.int .i64 6) ∧ ∃ n, w' = w.drewN n := by
  have HM := Lib.hid hm
  clear hm
  have hc0 := HT.c0
  have hc1 := HT.c1
  have hc2 := HT.c2
  have hn : 0 < 2 * most := by have := HT.pos; omega
  have hH := slotN_lt key (2 * most) hn
  have HT := Aside0.mk HT
  have c1 : decide ((most : Int) ≤ ((items sl).length : Int)) = true := decide_eq_true (by omega)
  have c2 : decide (most ≤ (items sl).length) = true := decide_eq_true (by omega)
  go_enter Try.func15, Try.ntmps15
  go_wp2_with fail
  (with_reducible refine (swalk_any key HT.out hs).mono ?_); rintro e w' ⟨d, hd, rfl, rfl, hp, hx⟩
  have hx := smiss_eq HT.out HM.out hx
  have hi : cyc (2 * most) (slotN key (2 * most) + d) < 2 * most := cyc_lt (by omega)
  obtain ⟨h0, h1, h2⟩ := HT.out.none_at hi hx
  clear h1 h2 hx hp hd
  generalize cyc (2 * most) (slotN key (2 * most) + d) = i at *
  go_wp2
  go_quiet (fail)
  go_wp2
  go_ret
  exact ⟨rfl, _, rfl⟩
theorem sput_new {p b most : Nat} {sl : List (Option (Ent ByteArray))} {w : World} {key : ByteArray} (HT : TabS w p b most sl) (hs : key.size ≤ 9223372036854775807) (v' : ByteArray) (hm : ∀ v, (key, v) ∉ items sl) (hroom : (items sl).length < most) :
    Calls Try.prog 15 #[.pointer (some ⟨p, 0, none⟩), .string key, Value.string v'] w fun e w' => e = .returned (.int .i64 0) ∧ (∃ i, i < 2 * most ∧ at_ sl i = none ∧ TabS w' p b most (sl.set i (some (key, v')))) ∧ Frm (fun k => k = p ∨ k = b) w w' := by
  have HM := Lib.hid hm
  clear hm
  have hc0 := HT.c0
  have hc1 := HT.c1
  have hc2 := HT.c2
  have hn : 0 < 2 * most := by have := HT.pos; omega
  have hH := slotN_lt key (2 * most) hn
  have hbig := HT.big
  have hpb : p ≠ b := HT.ne (by decide)
  have fp : w.frozen? ⟨p, 1, none⟩ = false := blk_frozen HT.hd 1
  have HT := Aside0.mk HT
  have c1 : decide ((most : Int) ≤ ((items sl).length : Int)) = false := decide_eq_false (by omega)
  have c2 : decide (most ≤ (items sl).length) = false := decide_eq_false (by omega)
  have hw1 : IntKind.i64.wrap (((items sl).length : Int) + 1) = (((items sl).length + 1 : Nat) : Int) := by rw [IntKind.wrap_i64]; omega
  go_enter Try.func15, Try.ntmps15
  go_wp2_with fail
  (with_reducible refine (swalk_any key HT.out hs).mono ?_); rintro e w' ⟨d, hd, rfl, rfl, hp, hx⟩
  have hx := smiss_eq HT.out HM.out hx
  have hi : cyc (2 * most) (slotN key (2 * most) + d) < 2 * most := cyc_lt (by omega)
  have HP := Lib.hid (HT.out.wf.add (v := v') hd hp hx)
  obtain ⟨h0, h1, h2⟩ := HT.out.none_at hi hx
  have HX := Lib.hid hx
  clear hx hp hd
  have hf : ∀ j, w.frozen? ⟨b, j, none⟩ = false := fun j => blk_frozen HT.out.bk j
  generalize cyc (2 * most) (slotN key (2 * most) + d) = i at *
  have f0 := hf (i * 3)
  have f1 := hf (i * 3 + 1)
  have f2 := hf (i * 3 + 2)
  clear hf
  go_wp2
  go_quiet (fail)
  go_wp2
  go_ret
  have hin := items_in sl i (key, v') (by rw [HT.out.len]; exact hi) HX.out
  have hlen : (items (sl.set i (some (key, v')))).length = (items sl).length + 1 := by rw [hin.length_eq]; rfl
  exact ⟨rfl, ⟨i, hi, HX.out, HT.out.store1 nq i (some (key, v')) _ _ _ _ rfl hi (by decide) (by rw [hlen]; rfl) HP.out (by rw [hlen]; omega) (by intro x hx; rcases List.mem_cons.1 (hin.mem_iff.1 hx) with rfl | hx; exact hs; exact HT.out.keys x hx)⟩, frm4 _ _ _ _ _ _ _ _ _⟩

theorem sinfo_slot : (Try.prog.info? 95).map (fun i => (i.zero, i.size, i.bytes)) = some (some (.agg #[.bool false, .string ⟨#[]⟩, .string ⟨#[]⟩]), 3, 40) := by kernel_rfl
theorem smake_run (n : Nat) (hn : n ≤ 10000) (W : World) : (Instr.makeSlice 91 (.int .i64 (n : Int)) (.int .i64 (n : Int))).run Try.prog W = .ok (.slice (some ⟨W.heap.size, 0, none⟩) n n) (W.alloc (.cells (flat (Value.string) (.string ⟨#[]⟩) (List.replicate n (none : Option (Ent ByteArray)))).toArray 95)) := by
  obtain ⟨i0, hi, hz⟩ := Option.map_eq_some_iff.1 sinfo_slot
  simp only [Prod.mk.injEq] at hz
  obtain ⟨hz0, hz1, hz2⟩ := hz
  have := run_make (P := Try.prog) W 91 95 i0 _ Try.underlying91 hi hz0 .i64 .i64 (n : Int) (n : Int) (by omega) (by omega) (by rw [hz2]; omega) (by omega)
  rw [this, hz1, Int.toNat_natCast]
  show _ = Result.ok _ (W.alloc (.cells _ 95))
  rw [← made_flat]
  rfl
theorem snew_any (n : Nat) (hn : 1 ≤ n) (hN : n ≤ 4096) (w : World) :
    Calls Try.prog 14 #[.int .i64 (n : Int)] w fun e w' => ∃ p b, e = .returned (.tuple #[.pointer (some ⟨p, 0, none⟩), .int .i64 0]) ∧ TabS w' p b n (List.replicate (2 * n) none) ∧ w.heap.size ≤ p ∧ w.heap.size ≤ b ∧ Frm (fun _ => False) w w' := by
  have c1 : decide ((n : Int) < 1) = false := decide_eq_false (by omega)
  have c1' : decide (n < 1) = false := decide_eq_false (by omega)
  have c2 : decide ((4096 : Int) < (n : Int)) = false := decide_eq_false (by omega)
  have c3 : decide (4096 < n) = false := decide_eq_false (by omega)
  have hmk := smake_run (2 * n) (by omega)
  have e2 : ((2 * n : Nat) : Int) = 2 * (n : Int) := by omega
  rw [e2] at hmk
  clear e2
  go_enter Try.func14, Try.ntmps14
  go_wp2
  go_ret2
  exact ⟨w.heap.size + 1, w.heap.size, rfl, tab_new n hn hN w, by omega, Nat.le_refl _, ((Frm.refl _ _).alloc _).alloc _⟩
theorem snew_bad (n : Int) (h : n < 1 ∨ 4096 < n) (w : World) :
    Calls Try.prog 14 #[.int .i64 n] w fun e w' => e = .returned (.tuple #[.pointer none, .int .i64 1]) ∧ w = w' := by
  by_cases h1 : n < 1
  · have c1 : decide (n < 1) = true := decide_eq_true h1
    go_enter Try.func14, Try.ntmps14
    go_wp2
    go_ret2
    exact ⟨rfl, rfl⟩
  · have c1 : decide (n < 1) = false := decide_eq_false h1
    have c2 : decide (4096 < n) = true := decide_eq_true (by omega)
    go_enter Try.func14, Try.ntmps14
    go_wp2
    go_ret2
    exact ⟨rfl, rfl⟩

end Go.Proofs.Ytjgoddieamphpaa.Obj
