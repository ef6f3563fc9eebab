/- probe.Table[int]: Put. -/
import Derived.Test.YtjgoddieamphpaaOTF
import Derived.Deep.QuietTactic
import Derived.BigQuiet
namespace Go.Proofs.Ytjgoddieamphpaa.Obj
open Go.RowKit Go.Proofs.YtjgoddieamphpaaW.PrintWords Go.Proofs.YtjgoddieamphpaaW.PrintLast Probe
set_option maxRecDepth 100000
set_option linter.unusedVariables false
section
variable {α : Type} {enc : α → Value} {zv : Value} {T S : Nat} {w w1 : World} {p b most : Nat} {sl : List (Option (Ent α))}
theorem Tab.ne (h : Tab enc zv T S w p b most sl) (hT : T ≠ S) : p ≠ b := blk_ne h.hd h.bk hT
theorem items_upd {h : ByteArray → Nat} {N : Nat} {sl : List (Option (Ent α))} (w : WF h N sl) {i : Nat} {k : ByteArray} {v : α} (he : at_ sl i = some (k, v)) (hi : i < N) (v' : α) :
    (∀ x ∈ items (sl.set i (some (k, v'))), x = (k, v') ∨ x ∈ items sl) ∧ (items (sl.set i (some (k, v')))).length = (items sl).length := by
  have hl : i < sl.length := by rw [w.len]; exact hi
  have e1 := items_out sl i _ he
  have e2 : (items (sl.set i (some (k, v')))).Perm ((k, v') :: items (sl.set i none)) := by
    have := items_in (sl.set i none) i (k, v') (by simpa using hl) (by rw [at_set _ _ _ _ hl, if_pos rfl])
    rwa [List.set_set] at this
  refine ⟨fun x hx => ?_, by rw [e2.length_eq, e1.length_eq]; rfl⟩
  rcases List.mem_cons.1 (e2.mem_iff.1 hx) with h | h
  · exact .inl h
  · exact .inr (e1.mem_iff.2 (List.mem_cons_of_mem _ h))
/-- A slot's three cells are stored. -/
theorem blk_flat (h : w.heap[b]? = some (.cells (flat enc zv sl).toArray S (0, 0))) (i : Nat) (x : Option (Ent α)) (a0 a1 a2 : Value) (hx : c3 enc zv x = [a0, a1, a2]) (hi : i < sl.length) :
    (((w.setCell ⟨b, i * 3, none⟩ a0).setCell ⟨b, i * 3 + 1, none⟩ a1).setCell ⟨b, i * 3 + 2, none⟩ a2).heap[b]? = some (.cells (flat enc zv (sl.set i x)).toArray S (0, 0)) := by
  have h3 := blk_set (blk_set (blk_set h (i * 3) a0) (i * 3 + 1) a1) (i * 3 + 2) a2
  rw [h3, ← flat_set enc zv sl i x a0 a1 a2 hx hi]
  simp
theorem Tab.store (h : Tab enc zv T S w p b most sl) (i : Nat) (x : Option (Ent α)) (a0 a1 a2 : Value) (hx : c3 enc zv x = [a0, a1, a2]) (hi : i < 2 * most) (hT : T ≠ S) (hn : (items (sl.set i x)).length = (items sl).length)
    (hw : WF (fun k => slotN k (2 * most)) (2 * most) (sl.set i x)) (hr : (items (sl.set i x)).length ≤ most) (hk : ∀ y ∈ items (sl.set i x), y.1.size ≤ 9223372036854775807) :
    Tab enc zv T S (((w.setCell ⟨b, i * 3, none⟩ a0).setCell ⟨b, i * 3 + 1, none⟩ a1).setCell ⟨b, i * 3 + 2, none⟩ a2) p b most (sl.set i x) :=
  ⟨by rw [hn]; exact blk_far (blk_far (blk_far h.hd (h.ne hT) _) (h.ne hT) _) (h.ne hT) _, blk_flat h.bk i x a0 a1 a2 hx (by rw [h.len]; exact hi), hw, hr, h.pos, h.big, hk⟩
theorem Tab.store1 (h : Tab enc zv T S w p b most sl) (nq : Nat) (i : Nat) (x : Option (Ent α)) (a0 a1 a2 : Value) (c : Int) (hx : c3 enc zv x = [a0, a1, a2]) (hi : i < 2 * most) (hT : T ≠ S) (hc : c = ((items (sl.set i x)).length : Nat))
    (hw : WF (fun k => slotN k (2 * most)) (2 * most) (sl.set i x)) (hr : (items (sl.set i x)).length ≤ most) (hk : ∀ y ∈ items (sl.set i x), y.1.size ≤ 9223372036854775807) :
    Tab enc zv T S (((((w.drewN nq).setCell ⟨p, 1, none⟩ (.int .i64 c)).setCell ⟨b, i * 3, none⟩ a0).setCell ⟨b, i * 3 + 1, none⟩ a1).setCell ⟨b, i * 3 + 2, none⟩ a2) p b most (sl.set i x) :=
  ⟨by rw [← hc]; exact blk_far (blk_far (blk_far (blk_put (blk_drewN h.hd nq) 1 _ rfl) (h.ne hT) _) (h.ne hT) _) (h.ne hT) _,
   blk_flat (blk_far (blk_drewN h.bk nq) (Ne.symm (h.ne hT)) _) i x a0 a1 a2 hx (by rw [h.len]; exact hi), hw, hr, h.pos, h.big, hk⟩
theorem frm4 (w : World) (p b : Nat) (nq i : Nat) (c a0 a1 a2 : Value) : Frm (fun k => k = p ∨ k = b) w (((((w.drewN nq).setCell ⟨p, 1, none⟩ c).setCell ⟨b, i * 3, none⟩ a0).setCell ⟨b, i * 3 + 1, none⟩ a1).setCell ⟨b, i * 3 + 2, none⟩ a2) :=
  (((((Frm.refl _ w).drewN nq).setCell (.inl (.inl rfl)) _).setCell (.inl (.inr rfl)) _).setCell (.inl (.inr rfl)) _).setCell (.inl (.inr rfl)) _
theorem frm3 (w : World) (p b : Nat) (i : Nat) (a0 a1 a2 : Value) : Frm (fun k => k = p ∨ k = b) w (((w.setCell ⟨b, i * 3, none⟩ a0).setCell ⟨b, i * 3 + 1, none⟩ a1).setCell ⟨b, i * 3 + 2, none⟩ a2) :=
  (((Frm.refl _ w).setCell (.inl (.inr rfl)) _).setCell (.inl (.inr rfl)) _).setCell (.inl (.inr rfl)) _
end
theorem iput_hit {p b most : Nat} {sl : List (Option (Ent Int))} {w : World} {key : ByteArray} (HT : TabI w p b most sl) (hs : key.size ≤ 9223372036854775807) (v' : Int) {i : Nat} {v : Int} (he : at_ sl i = some (key, v)) (hi : i < 2 * most) :
    Calls Try.prog 21 #[.pointer (some ⟨p, 0, none⟩), .string key, Value.int .i64 v'] w fun e w' => e = .returned (.int .i64 0) ∧ TabI w' p b most (sl.set i (some (key, v'))) ∧ Frm (fun k => k = p ∨ k = b) w w' := by
  have HE := Lib.hid he
  have hc2 := HT.c2
  obtain ⟨h0, h1, h2⟩ := HT.some_at hi he
  clear he
  have hf : ∀ j, w.frozen? ⟨b, j, none⟩ = false := fun j => blk_frozen HT.bk j
  have f0 := hf (i * 3)
  have f1 := hf (i * 3 + 1)
  have f2 := hf (i * 3 + 2)
  clear hf
  have HT := Aside0.mk HT
  go_enter Try.func21, Try.ntmps21
  go_wp2_with fail
  (with_reducible refine (iwalk_any key HT.out hs).mono ?_); rintro e w' ⟨d, hd, rfl, rfl, hp, hx⟩
  obtain hh := ihit_eq HT.out HE.out hd hp hx
  rw [hh]
  clear hh hp hx hd
  go_wp2
  go_ret
  exact ⟨rfl, HT.out.store i (some (key, v')) _ _ _ rfl hi (by decide) (by have := (items_upd HT.out.wf HE.out hi v').2; rw [this]) (HT.out.wf.upd HE.out hi) (by have := (items_upd HT.out.wf HE.out hi v').2; rw [this]; exact HT.out.room) (by intro x hx; rcases (items_upd HT.out.wf HE.out hi v').1 x hx with rfl | hx; exact hs; exact HT.out.keys x hx), frm3 _ _ _ _ _ _ _⟩
theorem iput_full {p b most : Nat} {sl : List (Option (Ent Int))} {w : World} {key : ByteArray} (HT : TabI w p b most sl) (hs : key.size ≤ 9223372036854775807) (v' : Int) (hm : ∀ v, (key, v) ∉ items sl) (hfull : most ≤ (items sl).length) :
    Calls Try.prog 21 #[.pointer (some ⟨p, 0, none⟩), .string key, Value.int .i64 v'] w fun e w' => e = .returned (.int .i64 6) ∧ ∃ n, w' = w.drewN n := by
  have HM := Lib.hid hm
  clear hm
  have hc0 := HT.c0
  have hc1 := HT.c1
  have hc2 := HT.c2
  have hn : 0 < 2 * most := by have := HT.pos; omega
  have hH := slotN_lt key (2 * most) hn
  have HT := Aside0.mk HT
  have c1 : decide ((most : Int) ≤ ((items sl).length : Int)) = true := decide_eq_true (by omega)
  have c2 : decide (most ≤ (items sl).length) = true := decide_eq_true (by omega)
  go_enter Try.func21, Try.ntmps21
  go_wp2_with fail
  (with_reducible refine (iwalk_any key HT.out hs).mono ?_); rintro e w' ⟨d, hd, rfl, rfl, hp, hx⟩
  have hx := imiss_eq HT.out HM.out hx
  have hi : cyc (2 * most) (slotN key (2 * most) + d) < 2 * most := cyc_lt (by omega)
  obtain ⟨h0, h1, h2⟩ := HT.out.none_at hi hx
  clear h1 h2 hx hp hd
  generalize cyc (2 * most) (slotN key (2 * most) + d) = i at *
  go_wp2
  go_quiet (fail)
  go_wp2
  go_ret
  exact ⟨rfl, _, rfl⟩
theorem iput_new {p b most : Nat} {sl : List (Option (Ent Int))} {w : World} {key : ByteArray} (HT : TabI w p b most sl) (hs : key.size ≤ 9223372036854775807) (v' : Int) (hm : ∀ v, (key, v) ∉ items sl) (hroom : (items sl).length < most) :
    Calls Try.prog 21 #[.pointer (some ⟨p, 0, none⟩), .string key, Value.int .i64 v'] w fun e w' => e = .returned (.int .i64 0) ∧ (∃ i, i < 2 * most ∧ at_ sl i = none ∧ TabI w' p b most (sl.set i (some (key, v')))) ∧ Frm (fun k => k = p ∨ k = b) w w' := by
  have HM := Lib.hid hm
  clear hm
  have hc0 := HT.c0
  have hc1 := HT.c1
  have hc2 := HT.c2
  have hn : 0 < 2 * most := by have := HT.pos; omega
  have hH := slotN_lt key (2 * most) hn
  have hbig := HT.big
  have hpb : p ≠ b := HT.ne (by decide)
  have fp : w.frozen? ⟨p, 1, none⟩ = false := blk_frozen HT.hd 1
  have HT := Aside0.mk HT
  have c1 : decide ((most : Int) ≤ ((items sl).length : Int)) = false := decide_eq_false (by omega)
  have c2 : decide (most ≤ (items sl).length) = false := decide_eq_false (by omega)
  have hw1 : IntKind.i64.wrap (((items sl).length : Int) + 1) = (((items sl).length + 1 : Nat) : Int) := by rw [IntKind.wrap_i64]; omega
  go_enter Try.func21, Try.ntmps21
  go_wp2_with fail
  (with_reducible refine (iwalk_any key HT.out hs).mono ?_); rintro e w' ⟨d, hd, rfl, rfl, hp, hx⟩
  have hx := imiss_eq HT.out HM.out hx
  have hi : cyc (2 * most) (slotN key (2 * most) + d) < 2 * most := cyc_lt (by omega)
  have HP := Lib.hid (HT.out.wf.add (v := v') hd hp hx)
  obtain ⟨h0, h1, h2⟩ := HT.out.none_at hi hx
  have HX := Lib.hid hx
  clear hx hp hd
  have hf : ∀ j, w.frozen? ⟨b, j, none⟩ = false := fun j => blk_frozen HT.out.bk j
  generalize cyc (2 * most) (slotN key (2 * most) + d) = i at *
  have f0 := hf (i * 3)
  have f1 := hf (i * 3 + 1)
  have f2 := hf (i * 3 + 2)
  clear hf
  go_wp2
  go_quiet (fail)
  go_wp2
  go_ret
  have hin := items_in sl i (key, v') (by rw [HT.out.len]; exact hi) HX.out
  have hlen : (items (sl.set i (some (key, v')))).length = (items sl).length + 1 := by rw [hin.length_eq]; rfl
  exact ⟨rfl, ⟨i, hi, HX.out, HT.out.store1 nq i (some (key, v')) _ _ _ _ rfl hi (by decide) (by rw [hlen]; rfl) HP.out (by rw [hlen]; omega) (by intro x hx; rcases List.mem_cons.1 (hin.mem_iff.1 hx) with rfl | hx; exact hs; exact HT.out.keys x hx)⟩, frm4 _ _ _ _ _ _ _ _ _⟩

end Go.Proofs.Ytjgoddieamphpaa.Obj
