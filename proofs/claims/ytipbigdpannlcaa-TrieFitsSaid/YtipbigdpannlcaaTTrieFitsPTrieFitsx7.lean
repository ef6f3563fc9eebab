/- What the law TrieFits uses, thinned: printed by shake2.py. -/
import Derived.Test.YtipbigdpannlcaaTTrieFitsPTrieFitsx0
import Derived.Test.YtipbigdpannlcaaTTrieFitsPTrieFitsx6
namespace Go.Proofs.Ytipbigdpannlcaa.PTrieFits
open Go.RowKit Go.Proofs.YtipbigdpannlcaaW.PrintWords Go.Proofs.YtipbigdpannlcaaW.PrintLast Go.Proofs.YtipbigdpannlcaaW.PrintMore
attribute [local go_sem] max2_int min2_int max_two min_two max_three min_three max_four min_four
set_option linter.unusedVariables false
set_option linter.unusedSimpArgs false
def turncockmake_key.f (s0_0 : List Int) (s0_1 : Int) : Option (ByteArray × Int) := (turncockmake_Tape_Next.f s0_0 s0_1 14).bind fun bt200 => (if bt200.1 < 12 then ((turncockmake_Keys.f).bind fun t202 => (if 0 ≤ (Int.tmod bt200.1 3) then (if (Int.tmod bt200.1 3) < (t202.length : Int) then (some (rdOf ByteArray.empty t202 (Int.tmod bt200.1 3), bt200.2)) else (none)) else (none))) else ((turncockmake_Keys.f).bind fun t206 => ((turncockmake_Tape_Of.f s0_0 bt200.2 t206).bind fun bt209 => (some (bt209.1, bt209.2)))))
set_option maxHeartbeats 8000000 in
set_option maxRecDepth 100000 in
theorem turncockmake_key.calls (g : Nat) (s0_0 : List Int) (s0_1 : Int) (r1 : ByteArray) (r2 : Int) (w0 w : World) (hI : IsS39 w0 w g s0_0 s0_1) (hB : Below w0.heap.size w0 w) (h : turncockmake_key.f s0_0 s0_1 = some (r1, r2)) :
    Calls Try.prog 25 #[.pointer (some ⟨g, 0, none⟩)] w fun e w' => e = .returned (.string r1) ∧ IsS39 w0 w' g s0_0 r2 ∧ Below w0.heap.size w0 w' ∧ KeepBut w w' g none := by
  have HI0 := Aside0.mk hI
  have HK := Aside0.mk (KeepBut.refl w g none)
  have HL := Aside0.mk hB.size
  clear hI
  have HW0 := Aside0.mk hB.size
  have HB := Aside0.mk hB
  clear hB
  have H : ((turncockmake_Tape_Next.f s0_0 s0_1 14).bind fun bt200 => (if bt200.1 < 12 then ((turncockmake_Keys.f).bind fun t202 => (if 0 ≤ (Int.tmod bt200.1 3) then (if (Int.tmod bt200.1 3) < (t202.length : Int) then (some (rdOf ByteArray.empty t202 (Int.tmod bt200.1 3), bt200.2)) else (none)) else (none))) else ((turncockmake_Keys.f).bind fun t206 => ((turncockmake_Tape_Of.f s0_0 bt200.2 t206).bind fun bt209 => (some (bt209.1, bt209.2)))))) = some (r1, r2) := h
  clear h
  replace H := Option.bind_eq_some_iff.mp H
  obtain ⟨⟨t200, t201⟩, A20, H⟩ := H
  replace H : (if t200 < 12 then ((turncockmake_Keys.f).bind fun t202 => (if 0 ≤ (Int.tmod t200 3) then (if (Int.tmod t200 3) < (t202.length : Int) then (some (rdOf ByteArray.empty t202 (Int.tmod t200 3), t201)) else (none)) else (none))) else ((turncockmake_Keys.f).bind fun t206 => ((turncockmake_Tape_Of.f s0_0 t201 t206).bind fun bt209 => (some (bt209.1, bt209.2))))) = some (r1, r2) := H
  have A2 := Aside0.mk A20
  clear A20
  by_cases c3 : t200 < 12
  · rw [if_pos c3] at H
    have c3b0 : decide (t200 < 12) = true := decide_eq_true c3
    clear c3
    replace H := Option.bind_eq_some_iff.mp H
    obtain ⟨t202, A40, H⟩ := H
    replace H : (if 0 ≤ (Int.tmod t200 3) then (if (Int.tmod t200 3) < (t202.length : Int) then (some (rdOf ByteArray.empty t202 (Int.tmod t200 3), t201)) else (none)) else (none)) = some (r1, r2) := H
    have A4 := Aside0.mk A40
    clear A40
    obtain ⟨ji5, hji5⟩ : ∃ j_ : Int, (Int.tmod t200 3) = j_ := ⟨_, rfl⟩
    replace H : (if 0 ≤ (ji5) then (if (ji5) < (t202.length : Int) then (some (rdOf ByteArray.empty t202 (ji5), t201)) else (none)) else (none)) = some (r1, r2) := by first | (rw [hji5] at H; exact H) | (simp only [hji5] at H ⊢; exact H)
    (try rw [hji5] at A2)
    (try rw [hji5] at A4)
    by_cases c6 : 0 ≤ (ji5)
    · rw [if_pos c6] at H
      have c6b0 : decide (0 ≤ (ji5)) = true := decide_eq_true c6
      clear c6
      by_cases c7 : (ji5) < (t202.length : Int)
      · rw [if_pos c7] at H
        have c7b0 : decide ((ji5) < (t202.length : Int)) = true := decide_eq_true c7
        clear c7
        simp only [Option.some.injEq, Prod.mk.injEq] at H
        obtain ⟨rfl, rfl⟩ := H
        go_enter Try.func25, Try.ntmps25
        go_wp2_with (first | ((with_reducible refine gate_callee (f := 18) rfl ?_); refine goesL_ (some 5) rfl rfl Try.func18 (by kernel_rfl) rfl #[.pointer (some ⟨g, 0, none⟩), .int .i64 14] rfl (by (try simp only [List.map_toArray, List.map_cons, List.map_nil]); first | done | rfl | (simp only [List.length_drop, List.length_take]; rfl)) ?_; (with_reducible refine (turncockmake_Tape_Next.calls g s0_0 s0_1 14 t200 t201 w0 _ ?side1 ?side2 A2.out).mono ?_); (case side1 => repeat (first | (with_reducible first | exact HI0.out | apply IsS39.alloc | apply IsS39.drewN | apply IsS39.drew | apply IsS39.set_1) | exact HI0.out)); (case side2 => repeat (first | (with_reducible first | exact HB.out | apply below_alloc | apply pw_below_drewN | apply below_drew1 | refine below_set ?_ (IsS39.ge HI0.out)) | exact HB.out)); rintro e w8 ⟨rfl, hi, hb, hk⟩; refine ⟨_, rfl, ?_⟩; have n0_ := Aside0.mk (KeepBut.trans (by repeat (first | (with_reducible first | exact HK.out | apply KeepBut.set_ | apply keep_drewN | apply keep_drew | apply keep_alloc) | exact HK.out)) hk (.inl rfl)); have n1_ := Aside0.mk (hb); have n2_ := Aside0.mk (hi); clear HK; clear HB; clear HI0; have HK := n0_; have HB := n1_; have HI0 := n2_; clear n0_ n1_ n2_; (try clear hb); (try clear hb2); (try clear hk); (try clear hi)) | ((with_reducible refine gate_callee (f := 33) rfl ?_); refine goesL_ (some 8) rfl rfl Try.func33 (by kernel_rfl) rfl #[] rfl (by (try simp only [List.map_toArray, List.map_cons, List.map_nil]); first | done | rfl | (simp only [List.length_drop, List.length_take]; rfl)) ?_; (with_reducible refine (turncockmake_Keys.calls  t202 _ A4.out).mono ?_); rintro e w9 ⟨v203, rfl, ho0, hb⟩; refine ⟨_, rfl, ?_⟩; have n0_ := Aside0.mk (Kd.R_lower ho0 (keep_size (w := w) (g := g) (row := none) (by repeat (first | (with_reducible first | exact HK.out | apply KeepBut.set_ | apply keep_drewN | apply keep_drew | apply keep_alloc) | exact HK.out)))); have n1_ := Aside0.mk (IsS39.below (by repeat (first | (with_reducible first | exact HI0.out | apply IsS39.alloc | apply IsS39.drewN | apply IsS39.drew | apply IsS39.set_1) | exact HI0.out)) hb); have n2_ := Aside0.mk (KeepBut.trans (by repeat (first | (with_reducible first | exact HK.out | apply KeepBut.set_ | apply keep_drewN | apply keep_drew | apply keep_alloc) | exact HK.out)) (KeepBut.of_below hb g none) (.inl rfl)); have n3_ := Aside0.mk (below_step (by repeat (first | (with_reducible first | exact HB.out | apply below_alloc | apply pw_below_drewN | apply below_drew1 | refine below_set ?_ (IsS39.ge HI0.out)) | exact HB.out)) hb); clear HI0; clear HK; clear HB; have HO204 := n0_; have HI0 := n1_; have HK := n2_; have HB := n3_; clear n0_ n1_ n2_ n3_; (try clear hb); (try clear hb2); (try clear hk); (try clear hi); (try clear ho0); obtain ⟨Ao10, co10, eo10⟩ := Kd.R_slice HO204.out; subst eo10; have p205 : 0 ≤ ((ji5) : Int) := of_decide_eq_true (by first | (with_reducible assumption) | assumption); have q205 : (ji5) < (t202.length : Int) := of_decide_eq_true (by first | (with_reducible assumption) | assumption); obtain ⟨ad205, e205, hx205_0⟩ := Kd.at_string (Kd.R_reads' HO204.out).2.2 (ji5) p205 q205; cases e205; replace p205 := eq_true p205; replace q205 := eq_true q205))
        go_ret
        exact ⟨by first | rfl | (simp [errW_none, errW_some] <;> rfl) | (simp only [← hji5]; first | rfl | (simp [errW_none, errW_some] <;> rfl)) | (simp [*, errW_none, errW_some] <;> rfl), by repeat (first | (with_reducible first | exact HI0.out | apply IsS39.alloc | apply IsS39.drewN | apply IsS39.drew | apply IsS39.set_1) | exact HI0.out), by repeat (first | (with_reducible first | exact HB.out | apply below_alloc | apply pw_below_drewN | apply below_drew1 | refine below_set ?_ (IsS39.ge HI0.out)) | exact HB.out), by repeat (first | (with_reducible first | exact HK.out | apply KeepBut.set_ | apply keep_drewN | apply keep_drew | apply keep_alloc) | exact HK.out)⟩
      · rw [if_neg c7] at H
        exact absurd H (by simp)
    · rw [if_neg c6] at H
      exact absurd H (by simp)
  · rw [if_neg c3] at H
    have c3b0 : decide (t200 < 12) = false := decide_eq_false c3
    clear c3
    replace H := Option.bind_eq_some_iff.mp H
    obtain ⟨t206, A110, H⟩ := H
    replace H : ((turncockmake_Tape_Of.f s0_0 t201 t206).bind fun bt209 => (some (bt209.1, bt209.2))) = some (r1, r2) := H
    have A11 := Aside0.mk A110
    clear A110
    replace H := Option.bind_eq_some_iff.mp H
    obtain ⟨⟨t209, t210⟩, A120, H⟩ := H
    replace H : (some (t209, t210)) = some (r1, r2) := H
    have A12 := Aside0.mk A120
    clear A120
    simp only [Option.some.injEq, Prod.mk.injEq] at H
    obtain ⟨rfl, rfl⟩ := H
    go_enter Try.func25, Try.ntmps25
    go_wp2_with (first | ((with_reducible refine gate_callee (f := 18) rfl ?_); refine goesL_ (some 5) rfl rfl Try.func18 (by kernel_rfl) rfl #[.pointer (some ⟨g, 0, none⟩), .int .i64 14] rfl (by (try simp only [List.map_toArray, List.map_cons, List.map_nil]); first | done | rfl | (simp only [List.length_drop, List.length_take]; rfl)) ?_; (with_reducible refine (turncockmake_Tape_Next.calls g s0_0 s0_1 14 t200 t201 w0 _ ?side1 ?side2 A2.out).mono ?_); (case side1 => repeat (first | (with_reducible first | exact HI0.out | apply IsS39.alloc | apply IsS39.drewN | apply IsS39.drew | apply IsS39.set_1) | exact HI0.out)); (case side2 => repeat (first | (with_reducible first | exact HB.out | apply below_alloc | apply pw_below_drewN | apply below_drew1 | refine below_set ?_ (IsS39.ge HI0.out)) | exact HB.out)); rintro e w13 ⟨rfl, hi, hb, hk⟩; refine ⟨_, rfl, ?_⟩; have n0_ := Aside0.mk (KeepBut.trans (by repeat (first | (with_reducible first | exact HK.out | apply KeepBut.set_ | apply keep_drewN | apply keep_drew | apply keep_alloc) | exact HK.out)) hk (.inl rfl)); have n1_ := Aside0.mk (hb); have n2_ := Aside0.mk (hi); clear HK; clear HB; clear HI0; have HK := n0_; have HB := n1_; have HI0 := n2_; clear n0_ n1_ n2_; (try clear hb); (try clear hb2); (try clear hk); (try clear hi)) | ((with_reducible refine gate_callee (f := 33) rfl ?_); refine goesL_ (some 14) rfl rfl Try.func33 (by kernel_rfl) rfl #[] rfl (by (try simp only [List.map_toArray, List.map_cons, List.map_nil]); first | done | rfl | (simp only [List.length_drop, List.length_take]; rfl)) ?_; (with_reducible refine (turncockmake_Keys.calls  t206 _ A11.out).mono ?_); rintro e w14 ⟨v207, rfl, ho0, hb⟩; refine ⟨_, rfl, ?_⟩; have n0_ := Aside0.mk (Kd.R_lower ho0 (keep_size (w := w) (g := g) (row := none) (by repeat (first | (with_reducible first | exact HK.out | apply KeepBut.set_ | apply keep_drewN | apply keep_drew | apply keep_alloc) | exact HK.out)))); have n1_ := Aside0.mk (IsS39.below (by repeat (first | (with_reducible first | exact HI0.out | apply IsS39.alloc | apply IsS39.drewN | apply IsS39.drew | apply IsS39.set_1) | exact HI0.out)) hb); have n2_ := Aside0.mk (KeepBut.trans (by repeat (first | (with_reducible first | exact HK.out | apply KeepBut.set_ | apply keep_drewN | apply keep_drew | apply keep_alloc) | exact HK.out)) (KeepBut.of_below hb g none) (.inl rfl)); have n3_ := Aside0.mk (below_step (by repeat (first | (with_reducible first | exact HB.out | apply below_alloc | apply pw_below_drewN | apply below_drew1 | refine below_set ?_ (IsS39.ge HI0.out)) | exact HB.out)) hb); clear HI0; clear HK; clear HB; have HO208 := n0_; have HI0 := n1_; have HK := n2_; have HB := n3_; clear n0_ n1_ n2_ n3_; (try clear hb); (try clear hb2); (try clear hk); (try clear hi); (try clear ho0); obtain ⟨Ao15, co15, eo15⟩ := Kd.R_slice HO208.out; subst eo15) | ((with_reducible refine gate_callee (f := 24) rfl ?_); refine goesL_ (some 15) rfl rfl Try.func24 (by kernel_rfl) rfl #[.pointer (some ⟨g, 0, none⟩), .slice Ao15 t206.length co15] rfl (by (try simp only [List.map_toArray, List.map_cons, List.map_nil]); first | done | rfl | (simp only [List.length_drop, List.length_take]; rfl)) ?_; (with_reducible refine (turncockmake_Tape_Of.calls g s0_0 t201 _ _ t206 t209 t210 w0 _ ?side1 ?side2 ?side3 ?side4 ?side5 A12.out).mono ?_); (case side1 => repeat (first | (with_reducible first | exact HI0.out | apply IsS39.alloc | apply IsS39.drewN | apply IsS39.drew | apply IsS39.set_1) | exact HI0.out)); (case side2 => repeat (first | (with_reducible first | exact HB.out | apply below_alloc | apply pw_below_drewN | apply below_drew1 | refine below_set ?_ (IsS39.ge HI0.out)) | exact HB.out)); (case side3 => repeat (first | exact (Kd.R_reads' HO208.out).2.2 | (with_reducible refine Kd.C_alloc ?_ _) | (with_reducible refine Kd.C_drewN ?_ _) | (with_reducible refine Kd.C_drew ?_))); (case side4 => exact (Kd.R_reads' HO208.out).2.1); (case side5 => exact far_slice (IsS39.own_ne HI0.out HO208.out (by decide))); rintro e w16 ⟨rfl, hi, hb, hk⟩; refine ⟨_, rfl, ?_⟩; have n0_ := Aside0.mk (Kd.R_mono (Kd.R_keep (IsS39.apart (show IsS39 w0 _ g s0_0 t201 from by repeat (first | (with_reducible first | exact HI0.out | apply IsS39.alloc | apply IsS39.drewN | apply IsS39.drew | apply IsS39.set_1) | exact HI0.out)) (by (with_reducible repeat (first | apply Kd.R_alloc | apply Kd.R_drewN | apply Kd.R_drew)); exact HO208.out) (by decide)) hk (fun _ h => h.2)) (fun _ h => h.1)); have n1_ := Aside0.mk (KeepBut.trans (by repeat (first | (with_reducible first | exact HK.out | apply KeepBut.set_ | apply keep_drewN | apply keep_drew | apply keep_alloc) | exact HK.out)) hk (.inl rfl)); have n2_ := Aside0.mk (hb); have n3_ := Aside0.mk (hi); clear HO208; clear HK; clear HB; clear HI0; have HO208 := n0_; have HK := n1_; have HB := n2_; have HI0 := n3_; clear n0_ n1_ n2_ n3_; (try clear hb); (try clear hb2); (try clear hk); (try clear hi)))
    go_ret
    exact ⟨by first | rfl | (simp [errW_none, errW_some] <;> rfl) | (simp [*, errW_none, errW_some] <;> rfl), by repeat (first | (with_reducible first | exact HI0.out | apply IsS39.alloc | apply IsS39.drewN | apply IsS39.drew | apply IsS39.set_1) | exact HI0.out), by repeat (first | (with_reducible first | exact HB.out | apply below_alloc | apply pw_below_drewN | apply below_drew1 | refine below_set ?_ (IsS39.ge HI0.out)) | exact HB.out), by repeat (first | (with_reducible first | exact HK.out | apply KeepBut.set_ | apply keep_drewN | apply keep_drew | apply keep_alloc) | exact HK.out)⟩
def turncockmake_Desc.l0 : Nat → Int → Int → List Int → Int → List (S48) → Option ((List (S48)) × Int)
  | 0, _, _, _, _, _ => none
  | k + 1, x4, x5, x1000, x1001, x213000 => if x5 < x4 then ((turncockmake_Values.f).bind fun t215 => ((turncockmake_Tape_Next.f x1000 x1001 2).bind fun bt218 => (if 0 ≤ bt218.1 then (if bt218.1 < (t215.length : Int) then ((turncockmake_Tape_Next.f x1000 bt218.2 6).bind fun bt221 => (if bt221.1 = 0 then ((turncockmake_Values.f).bind fun t223 => ((turncockmake_Tape_Of.f x1000 bt221.2 t223).bind fun bt226 => ((turncockmake_key.f x1000 bt226.2).bind fun bt228 => (if x213000.length < 4398046511104 then (turncockmake_Desc.l0 k x4 (wrap64 (x5 + 1)) x1000 bt228.2 (x213000 ++ [(⟨bt228.1, bt226.1⟩ : S48)])) else (none))))) else ((turncockmake_key.f x1000 bt221.2).bind fun bt233 => (if x213000.length < 4398046511104 then (turncockmake_Desc.l0 k x4 (wrap64 (x5 + 1)) x1000 bt233.2 (x213000 ++ [(⟨bt233.1, rdOf ByteArray.empty t215 bt218.1⟩ : S48)])) else (none))))) else (none)) else (none)))) else (some (x213000, x1001))
def turncockmake_Desc.f (k : Nat) (s0_0 : List Int) (s0_1 : Int) : Option ((List (S48)) × Int) := (turncockmake_Tape_Next.f s0_0 s0_1 3).bind fun bt213 => (turncockmake_Desc.l0 k (wrap64 (1 + bt213.1)) 0 s0_0 bt213.2 ([] : List (S48)))
def turncockmake_Desc.T9 : Bool × List (List Nat × List Nat) := (true, [([], []), ([0], [0]), ([], []), ([2], [2]), ([], []), ([3, 4], [3, 4]), ([5], [5]), ([1, 6, 3], [1, 6]), ([0, 1, 2, 3, 4, 5, 6, 7], []), ([8, 7, 7, 0, 1, 2, 3, 4, 5, 6, 7], [7, 8])])
def turncockmake_Desc.B9 : List Nat := [0, 1, 0, 4, 0, 28, 60, 127, 255, 511]
theorem turncockmake_Desc.tab9 : rtab .any (opsOf Try.f9 9) = turncockmake_Desc.T9 := by kernel_rfl
theorem turncockmake_Desc.bits9 : waitsOk turncockmake_Desc.T9.2 turncockmake_Desc.B9 = true := by kernel_rfl
set_option maxHeartbeats 8000000 in
set_option maxRecDepth 100000 in
theorem turncockmake_Desc.calls (k : Nat) (g : Nat) (s0_0 : List Int) (s0_1 : Int) (r1 : List (S48)) (r2 : Int) (w0 w : World) (hI : IsS39 w0 w g s0_0 s0_1) (hB : Below w0.heap.size w0 w) (h : turncockmake_Desc.f k s0_0 s0_1 = some (r1, r2)) :
    Calls Try.prog 9 #[.pointer (some ⟨g, 0, none⟩)] w fun e w' => ∃ v0_ : Value, e = .returned (.agg #[v0_]) ∧ Kd.R k48 48 w' w.heap.size (fun _ => True) v0_ r1 ∧ IsS39 w0 w' g s0_0 r2 ∧ Below w0.heap.size w0 w' ∧ KeepBut w w' g none := by
  have hu35 := Try.underlying35
  have hu48 := Try.underlying48
  have HI0 := Aside0.mk hI
  have HK := Aside0.mk (KeepBut.refl w g none)
  have HL := Aside0.mk hB.size
  clear hI
  have HW0 := Aside0.mk hB.size
  have HB := Aside0.mk hB
  clear hB
  have H : ((turncockmake_Tape_Next.f s0_0 s0_1 3).bind fun bt213 => (turncockmake_Desc.l0 k (wrap64 (1 + bt213.1)) 0 s0_0 bt213.2 ([] : List (S48)))) = some (r1, r2) := h
  clear h
  replace H := Option.bind_eq_some_iff.mp H
  obtain ⟨⟨t213, t214⟩, A20, H⟩ := H
  replace H : (turncockmake_Desc.l0 k (wrap64 (1 + t213)) 0 s0_0 t214 ([] : List (S48))) = some (r1, r2) := H
  have A2 := Aside0.mk A20
  clear A20
  have H' := Aside0.mk H
  clear H
  go_enter Try.func9, Try.ntmps9
  go_wp2_with (first | ((with_reducible refine gate_dst (N := 2) rfl ?_); refine box_event ?hg (N := 2) ?hd (cs := #[.slice none 0 0]) (t := 35) ?hr ?_; (case hd => rfl); (case hg => rfl); (case hr => first | (go_simp; done) | (go_simp; rfl)); intro gb211 hg w3 hbox hb; have n0_ := Aside0.mk (IsS39.below (by repeat (first | (with_reducible first | exact HI0.out | apply IsS39.alloc | apply IsS39.drewN | apply IsS39.drew | apply IsS39.set_1) | exact HI0.out)) hb); have n1_ := Aside0.mk (KeepBut.trans (by repeat (first | (with_reducible first | exact HK.out | apply KeepBut.set_ | apply keep_drewN | apply keep_drew | apply keep_alloc) | exact HK.out)) (KeepBut.of_below hb g none) (.inl rfl)); have n2_ := Aside0.mk (below_step (by repeat (first | (with_reducible first | exact HB.out | apply below_alloc | apply pw_below_drewN | apply below_drew1 | refine below_set ?_ (IsS39.ge HI0.out)) | exact HB.out)) hb); have n3_ := Aside0.mk (hbox); have n4_ := Aside0.mk ((by rw [hg]; exact (keep_size (w := w) (g := g) (row := none) (by repeat (first | (with_reducible first | exact HK.out | apply KeepBut.set_ | apply keep_drewN | apply keep_drew | apply keep_alloc) | exact HK.out))) : w.heap.size ≤ gb211)); have n5_ := Aside0.mk ((Nat.le_trans HW0.out (by rw [hg]; exact (keep_size (w := w) (g := g) (row := none) (by repeat (first | (with_reducible first | exact HK.out | apply KeepBut.set_ | apply keep_drewN | apply keep_drew | apply keep_alloc) | exact HK.out))) : w.heap.size ≤ gb211) : w0.heap.size ≤ gb211)); have n6_ := Aside0.mk ((by rw [hg]; exact Nat.ne_of_lt (IsS39.lt (show IsS39 w0 _ g s0_0 s0_1 from by repeat (first | (with_reducible first | exact HI0.out | apply IsS39.alloc | apply IsS39.drewN | apply IsS39.drew | apply IsS39.set_1) | exact HI0.out))) : g ≠ gb211)); have n7_ := Aside0.mk ((by rw [hg]; exact Nat.ne_of_gt (IsS39.lt (show IsS39 w0 _ g s0_0 s0_1 from by repeat (first | (with_reducible first | exact HI0.out | apply IsS39.alloc | apply IsS39.drewN | apply IsS39.drew | apply IsS39.set_1) | exact HI0.out))) : gb211 ≠ g)); clear HI0; clear HK; clear HB; have HI0 := n0_; have HK := n1_; have HB := n2_; have BK211 := n3_; have GW211 := n4_; have GE211 := n5_; have NB0_211 := n6_; have NB211_0 := n7_; clear n0_ n1_ n2_ n3_ n4_ n5_ n6_ n7_; clear hb hbox hg) | ((with_reducible refine gate_dst (N := 3) rfl ?_); refine box_event ?hg (N := 3) ?hd (cs := #[.slice none 0 0]) (t := 35) ?hr ?_; (case hd => rfl); (case hg => rfl); (case hr => first | (go_simp; done) | (go_simp; rfl)); intro gb212 hg w4 hbox hb; have n0_ := Aside0.mk (IsS39.below (by repeat (first | (with_reducible first | exact HI0.out | apply IsS39.alloc | apply IsS39.drewN | apply IsS39.drew | apply IsS39.set_1 | refine IsS39.far ?_ NB0_211.out _) | exact HI0.out)) hb); have n1_ := Aside0.mk (blk_below (g := gb211) (o := .cells #[.slice none 0 0] 35 (0, 0)) (by (with_reducible repeat (first | refine blk_drewN ?_ _ | refine blk_drew ?_ | refine blk_alloc ?_ _)); exact BK211.out) hb); have n2_ := Aside0.mk (KeepBut.trans (by repeat (first | (with_reducible first | exact HK.out | apply KeepBut.set_ | apply keep_drewN | apply keep_drew | apply keep_alloc | refine keep_far ?_ GW211.out _) | exact HK.out)) (KeepBut.of_below hb g none) (.inl rfl)); have n3_ := Aside0.mk (below_step (by repeat (first | (with_reducible first | exact HB.out | apply below_alloc | apply pw_below_drewN | apply below_drew1 | refine below_set ?_ (IsS39.ge HI0.out) | refine below_set ?_ GE211.out) | exact HB.out)) hb); have n4_ := Aside0.mk (hbox); have n5_ := Aside0.mk ((by rw [hg]; exact (keep_size (w := w) (g := g) (row := none) (by repeat (first | (with_reducible first | exact HK.out | apply KeepBut.set_ | apply keep_drewN | apply keep_drew | apply keep_alloc | refine keep_far ?_ GW211.out _) | exact HK.out))) : w.heap.size ≤ gb212)); have n6_ := Aside0.mk ((Nat.le_trans HW0.out (by rw [hg]; exact (keep_size (w := w) (g := g) (row := none) (by repeat (first | (with_reducible first | exact HK.out | apply KeepBut.set_ | apply keep_drewN | apply keep_drew | apply keep_alloc | refine keep_far ?_ GW211.out _) | exact HK.out))) : w.heap.size ≤ gb212) : w0.heap.size ≤ gb212)); have n7_ := Aside0.mk ((by rw [hg]; exact Nat.ne_of_lt (blk_lt (g := gb211) (o := .cells #[.slice none 0 0] 35 (0, 0)) (by (with_reducible repeat (first | refine blk_drewN ?_ _ | refine blk_drew ?_ | refine blk_alloc ?_ _)); exact BK211.out)) : gb211 ≠ gb212)); have n8_ := Aside0.mk ((by rw [hg]; exact Nat.ne_of_gt (blk_lt (g := gb211) (o := .cells #[.slice none 0 0] 35 (0, 0)) (by (with_reducible repeat (first | refine blk_drewN ?_ _ | refine blk_drew ?_ | refine blk_alloc ?_ _)); exact BK211.out)) : gb212 ≠ gb211)); have n9_ := Aside0.mk ((by rw [hg]; exact Nat.ne_of_lt (IsS39.lt (show IsS39 w0 _ g s0_0 s0_1 from by repeat (first | (with_reducible first | exact HI0.out | apply IsS39.alloc | apply IsS39.drewN | apply IsS39.drew | apply IsS39.set_1 | refine IsS39.far ?_ NB0_211.out _) | exact HI0.out))) : g ≠ gb212)); have n10_ := Aside0.mk ((by rw [hg]; exact Nat.ne_of_gt (IsS39.lt (show IsS39 w0 _ g s0_0 s0_1 from by repeat (first | (with_reducible first | exact HI0.out | apply IsS39.alloc | apply IsS39.drewN | apply IsS39.drew | apply IsS39.set_1 | refine IsS39.far ?_ NB0_211.out _) | exact HI0.out))) : gb212 ≠ g)); clear HI0; clear BK211; clear HK; clear HB; have HI0 := n0_; have BK211 := n1_; have HK := n2_; have HB := n3_; have BK212 := n4_; have GW212 := n5_; have GE212 := n6_; have NB211_212 := n7_; have NB212_211 := n8_; have NB0_212 := n9_; have NB212_0 := n10_; clear n0_ n1_ n2_ n3_ n4_ n5_ n6_ n7_ n8_ n9_ n10_; clear hb hbox hg) | ((with_reducible refine gate_callee (f := 18) rfl ?_); refine goesL_ (some 8) rfl rfl Try.func18 (by kernel_rfl) rfl #[.pointer (some ⟨g, 0, none⟩), .int .i64 3] rfl (by (try simp only [List.map_toArray, List.map_cons, List.map_nil]); first | done | rfl | (simp only [List.length_drop, List.length_take]; rfl)) ?_; (with_reducible refine (turncockmake_Tape_Next.calls g s0_0 s0_1 3 t213 t214 w0 _ ?side1 ?side2 A2.out).mono ?_); (case side1 => repeat (first | (with_reducible first | exact HI0.out | apply IsS39.alloc | apply IsS39.drewN | apply IsS39.drew | apply IsS39.set_1 | refine IsS39.far ?_ NB0_211.out _ | refine IsS39.far ?_ NB0_212.out _) | exact HI0.out)); (case side2 => repeat (first | (with_reducible first | exact HB.out | apply below_alloc | apply pw_below_drewN | apply below_drew1 | refine below_set ?_ (IsS39.ge HI0.out) | refine below_set ?_ GE211.out | refine below_set ?_ GE212.out) | exact HB.out)); rintro e w5 ⟨rfl, hi, hb, hk⟩; refine ⟨_, rfl, ?_⟩; have n0_ := Aside0.mk (KeepBut.blk hk (g' := gb211) (o := .cells #[.slice none 0 0] 35 (0, 0)) (by (with_reducible repeat (first | refine blk_drewN ?_ _ | refine blk_drew ?_ | refine blk_alloc ?_ _)); exact BK211.out) NB211_0.out (by simp)); have n1_ := Aside0.mk (KeepBut.blk hk (g' := gb212) (o := .cells #[.slice none 0 0] 35 (0, 0)) (by (with_reducible repeat (first | refine blk_drewN ?_ _ | refine blk_drew ?_ | refine blk_alloc ?_ _)); exact BK212.out) NB212_0.out (by simp)); have n2_ := Aside0.mk (KeepBut.trans (by repeat (first | (with_reducible first | exact HK.out | apply KeepBut.set_ | apply keep_drewN | apply keep_drew | apply keep_alloc | refine keep_far ?_ GW211.out _ | refine keep_far ?_ GW212.out _) | exact HK.out)) hk (.inl rfl)); have n3_ := Aside0.mk (hb); have n4_ := Aside0.mk (hi); clear BK211; clear BK212; clear HK; clear HB; clear HI0; have BK211 := n0_; have BK212 := n1_; have HK := n2_; have HB := n3_; have HI0 := n4_; clear n0_ n1_ n2_ n3_ n4_; (try clear hb); (try clear hb2); (try clear hk); (try clear hi)))
  go_loopg [5] k (fun kq v5 w' => ∃ (x5_1 : Int) (x1001_1 : Int) (x213000_1 : List (S48)) (u213000 : Value), v5 = .int .i64 x5_1 ∧ Aside0 (turncockmake_Desc.l0 kq (wrap64 (1 + t213)) x5_1 s0_0 x1001_1 x213000_1 = some (r1, r2)) ∧ Aside0 (kq ≤ k) ∧ Aside0 (Kd.R k48 48 w' w.heap.size (fun _ => True) u213000 x213000_1) ∧ Aside0 (w'.heap[gb211]? = some (.cells #[(.slice none 0 0)] 35 (0, 0))) ∧ Aside0 (w'.heap[gb212]? = some (.cells #[u213000] 35 (0, 0))) ∧ Aside0 (IsS39 w0 w' g s0_0 x1001_1) ∧ Aside0 (KeepBut w w' g none) ∧ Aside0 (Below w0.heap.size w0 w'))
  case atStart => exact ⟨(0), (t214), (([] : List (S48))), (.slice none 0 0), (by first | rfl | (simp; done) | (simp [*]; done)), H', ⟨Nat.le_refl _⟩, ⟨by first | exact Kd.R_nil _ _ _ _ _ | exact Kd.N_nil _ _ _ _ _ | exact Kd.V_nil _ _ _ _ _ | exact Kd.Q_nil _ _ _ _ _ | exact Kd.S_nil _ _ _ _ _⟩, ⟨by (with_reducible repeat (first | refine blk_drewN ?_ _ | refine blk_drew ?_ | refine blk_alloc ?_ _)); exact BK211.out⟩, ⟨by (with_reducible repeat (first | refine blk_drewN ?_ _ | refine blk_drew ?_ | refine blk_alloc ?_ _)); exact BK212.out⟩, ⟨by repeat (first | (with_reducible first | exact HI0.out | apply IsS39.alloc | apply IsS39.drewN | apply IsS39.drew | apply IsS39.set_1 | refine IsS39.far ?_ NB0_211.out _ | refine IsS39.far ?_ NB0_212.out _) | exact HI0.out)⟩, ⟨by repeat (first | (with_reducible first | exact HK.out | apply KeepBut.set_ | apply keep_drewN | apply keep_drew | apply keep_alloc | refine keep_far ?_ GW211.out _ | refine keep_far ?_ GW212.out _) | exact HK.out)⟩, ⟨by repeat (first | (with_reducible first | exact HB.out | apply below_alloc | apply pw_below_drewN | apply below_drew1 | refine below_set ?_ (IsS39.ge HI0.out) | refine below_set ?_ GE211.out | refine below_set ?_ GE212.out) | exact HB.out)⟩⟩
  case round =>
    clear H'
    try clear c1
    try clear p2
    obtain ⟨x5_1, x1001_1, x213000_1, u213000, rfl, HA, HK1, HO_213000, BK211, BK212, HI0, HK, HB⟩ := hrel
    cases gk with
    | zero => exact absurd HA.out (by simp [turncockmake_Desc.l0])
    | succ k1 =>
      have H := HA.out
      clear HA
      simp only [turncockmake_Desc.l0] at H
      by_cases c6 : x5_1 < (wrap64 (1 + t213))
      · rw [if_pos c6] at H
        have c6b0 : decide (x5_1 < (wrap64 (1 + t213))) = true := decide_eq_true c6
        clear c6
        replace H := Option.bind_eq_some_iff.mp H
        obtain ⟨t215, A70, H⟩ := H
        replace H : ((turncockmake_Tape_Next.f s0_0 x1001_1 2).bind fun bt218 => (if 0 ≤ bt218.1 then (if bt218.1 < (t215.length : Int) then ((turncockmake_Tape_Next.f s0_0 bt218.2 6).bind fun bt221 => (if bt221.1 = 0 then ((turncockmake_Values.f).bind fun t223 => ((turncockmake_Tape_Of.f s0_0 bt221.2 t223).bind fun bt226 => ((turncockmake_key.f s0_0 bt226.2).bind fun bt228 => (if x213000_1.length < 4398046511104 then (turncockmake_Desc.l0 k1 (wrap64 (1 + t213)) (wrap64 (x5_1 + 1)) s0_0 bt228.2 (x213000_1 ++ [(⟨bt228.1, bt226.1⟩ : S48)])) else (none))))) else ((turncockmake_key.f s0_0 bt221.2).bind fun bt233 => (if x213000_1.length < 4398046511104 then (turncockmake_Desc.l0 k1 (wrap64 (1 + t213)) (wrap64 (x5_1 + 1)) s0_0 bt233.2 (x213000_1 ++ [(⟨bt233.1, rdOf ByteArray.empty t215 bt218.1⟩ : S48)])) else (none))))) else (none)) else (none))) = some (r1, r2) := H
        have A7 := Aside0.mk A70
        clear A70
        replace H := Option.bind_eq_some_iff.mp H
        obtain ⟨⟨t218, t219⟩, A80, H⟩ := H
        replace H : (if 0 ≤ t218 then (if t218 < (t215.length : Int) then ((turncockmake_Tape_Next.f s0_0 t219 6).bind fun bt221 => (if bt221.1 = 0 then ((turncockmake_Values.f).bind fun t223 => ((turncockmake_Tape_Of.f s0_0 bt221.2 t223).bind fun bt226 => ((turncockmake_key.f s0_0 bt226.2).bind fun bt228 => (if x213000_1.length < 4398046511104 then (turncockmake_Desc.l0 k1 (wrap64 (1 + t213)) (wrap64 (x5_1 + 1)) s0_0 bt228.2 (x213000_1 ++ [(⟨bt228.1, bt226.1⟩ : S48)])) else (none))))) else ((turncockmake_key.f s0_0 bt221.2).bind fun bt233 => (if x213000_1.length < 4398046511104 then (turncockmake_Desc.l0 k1 (wrap64 (1 + t213)) (wrap64 (x5_1 + 1)) s0_0 bt233.2 (x213000_1 ++ [(⟨bt233.1, rdOf ByteArray.empty t215 t218⟩ : S48)])) else (none))))) else (none)) else (none)) = some (r1, r2) := H
        have A8 := Aside0.mk A80
        clear A80
        by_cases c9 : 0 ≤ t218
        · rw [if_pos c9] at H
          have c9b0 : decide (0 ≤ t218) = true := decide_eq_true c9
          clear c9
          by_cases c10 : t218 < (t215.length : Int)
          · rw [if_pos c10] at H
            have c10b0 : decide (t218 < (t215.length : Int)) = true := decide_eq_true c10
            clear c10
            replace H := Option.bind_eq_some_iff.mp H
            obtain ⟨⟨t221, t222⟩, A110, H⟩ := H
            replace H : (if t221 = 0 then ((turncockmake_Values.f).bind fun t223 => ((turncockmake_Tape_Of.f s0_0 t222 t223).bind fun bt226 => ((turncockmake_key.f s0_0 bt226.2).bind fun bt228 => (if x213000_1.length < 4398046511104 then (turncockmake_Desc.l0 k1 (wrap64 (1 + t213)) (wrap64 (x5_1 + 1)) s0_0 bt228.2 (x213000_1 ++ [(⟨bt228.1, bt226.1⟩ : S48)])) else (none))))) else ((turncockmake_key.f s0_0 t222).bind fun bt233 => (if x213000_1.length < 4398046511104 then (turncockmake_Desc.l0 k1 (wrap64 (1 + t213)) (wrap64 (x5_1 + 1)) s0_0 bt233.2 (x213000_1 ++ [(⟨bt233.1, rdOf ByteArray.empty t215 t218⟩ : S48)])) else (none)))) = some (r1, r2) := H
            have A11 := Aside0.mk A110
            clear A110
            by_cases c12 : t221 = 0
            · rw [if_pos c12] at H
              have c12b0 : (t221 == 0) = true := beq_iff_eq.mpr c12
              have c12b1 : (t221 != 0) = false := bne_eq_false_iff_eq.mpr c12
              clear c12
              replace H := Option.bind_eq_some_iff.mp H
              obtain ⟨t223, A130, H⟩ := H
              replace H : ((turncockmake_Tape_Of.f s0_0 t222 t223).bind fun bt226 => ((turncockmake_key.f s0_0 bt226.2).bind fun bt228 => (if x213000_1.length < 4398046511104 then (turncockmake_Desc.l0 k1 (wrap64 (1 + t213)) (wrap64 (x5_1 + 1)) s0_0 bt228.2 (x213000_1 ++ [(⟨bt228.1, bt226.1⟩ : S48)])) else (none)))) = some (r1, r2) := H
              have A13 := Aside0.mk A130
              clear A130
              replace H := Option.bind_eq_some_iff.mp H
              obtain ⟨⟨t226, t227⟩, A140, H⟩ := H
              replace H : ((turncockmake_key.f s0_0 t227).bind fun bt228 => (if x213000_1.length < 4398046511104 then (turncockmake_Desc.l0 k1 (wrap64 (1 + t213)) (wrap64 (x5_1 + 1)) s0_0 bt228.2 (x213000_1 ++ [(⟨bt228.1, t226⟩ : S48)])) else (none))) = some (r1, r2) := H
              have A14 := Aside0.mk A140
              clear A140
              replace H := Option.bind_eq_some_iff.mp H
              obtain ⟨⟨t228, t229⟩, A150, H⟩ := H
              replace H : (if x213000_1.length < 4398046511104 then (turncockmake_Desc.l0 k1 (wrap64 (1 + t213)) (wrap64 (x5_1 + 1)) s0_0 t229 (x213000_1 ++ [(⟨t228, t226⟩ : S48)])) else (none)) = some (r1, r2) := H
              have A15 := Aside0.mk A150
              clear A150
              by_cases c16 : x213000_1.length < 4398046511104
              · rw [if_pos c16] at H
                have LMc16 := Aside0.mk c16
                clear c16
                obtain ⟨y230, hy230⟩ : ∃ y_ : List (S48), y_ = (x213000_1 ++ [(⟨t228, t226⟩ : S48)]) := ⟨_, rfl⟩
                replace H : (turncockmake_Desc.l0 k1 (wrap64 (1 + t213)) (wrap64 (x5_1 + 1)) s0_0 t229 y230) = some (r1, r2) := by first | (rw [hy230]; with_reducible exact H) | (have H2_ := (Option.bind_some _ _).symm.trans H; rw [hy230]; with_reducible exact H2_) | (have H2_ := (Option.bind_some _ _).symm.trans H; with_reducible exact H2_) | with_reducible exact H | (rw [hy230]; exact H) | exact H
                have Ny230 := Aside0.mk hy230
                clear hy230
                have H' := Aside0.mk H
                clear H
                try go_wp2_with (first | ((with_reducible refine gate_callee (f := 23) rfl ?_); refine goesL_ (some 15) rfl rfl Try.func23 (by kernel_rfl) rfl #[] rfl (by (try simp only [List.map_toArray, List.map_cons, List.map_nil]); first | done | rfl | (simp only [List.length_drop, List.length_take]; rfl)) ?_; (with_reducible refine (turncockmake_Values.calls  t215 _ A7.out).mono ?_); rintro e w17 ⟨v216, rfl, ho0, hb⟩; refine ⟨_, rfl, ?_⟩; have n0_ := Aside0.mk (Kd.R_below (by (with_reducible repeat (first | apply Kd.R_alloc | apply Kd.R_drewN | apply Kd.R_drew)); exact HO_213000.out) hb); have n1_ := Aside0.mk (Kd.R_lower ho0 (keep_size (w := w) (g := g) (row := none) (by repeat (first | (with_reducible first | exact HK.out | apply KeepBut.set_ | apply keep_drewN | apply keep_drew | apply keep_alloc | refine keep_far ?_ GW211.out _ | refine keep_far ?_ GW212.out _) | exact HK.out)))); have n2_ := Aside0.mk (blk_below (g := gb211) (o := .cells #[.slice none 0 0] 35 (0, 0)) (by (with_reducible repeat (first | refine blk_drewN ?_ _ | refine blk_drew ?_ | refine blk_alloc ?_ _)); exact BK211.out) hb); have n3_ := Aside0.mk (blk_below (g := gb212) (o := .cells #[u213000] 35 (0, 0)) (by (with_reducible repeat (first | refine blk_drewN ?_ _ | refine blk_drew ?_ | refine blk_alloc ?_ _)); exact BK212.out) hb); have n4_ := Aside0.mk (IsS39.below (by repeat (first | (with_reducible first | exact HI0.out | apply IsS39.alloc | apply IsS39.drewN | apply IsS39.drew | apply IsS39.set_1 | refine IsS39.far ?_ NB0_211.out _ | refine IsS39.far ?_ NB0_212.out _) | exact HI0.out)) hb); have n5_ := Aside0.mk (KeepBut.trans (by repeat (first | (with_reducible first | exact HK.out | apply KeepBut.set_ | apply keep_drewN | apply keep_drew | apply keep_alloc | refine keep_far ?_ GW211.out _ | refine keep_far ?_ GW212.out _) | exact HK.out)) (KeepBut.of_below hb g none) (.inl rfl)); have n6_ := Aside0.mk (below_step (by repeat (first | (with_reducible first | exact HB.out | apply below_alloc | apply pw_below_drewN | apply below_drew1 | refine below_set ?_ (IsS39.ge HI0.out) | refine below_set ?_ GE211.out | refine below_set ?_ GE212.out) | exact HB.out)) hb); clear HO_213000; clear BK211; clear BK212; clear HI0; clear HK; clear HB; have HO_213000 := n0_; have HO217 := n1_; have BK211 := n2_; have BK212 := n3_; have HI0 := n4_; have HK := n5_; have HB := n6_; clear n0_ n1_ n2_ n3_ n4_ n5_ n6_; (try clear hb); (try clear hb2); (try clear hk); (try clear hi); (try clear ho0)) | ((with_reducible refine gate_callee (f := 18) rfl ?_); refine goesL_ (some 17) rfl rfl Try.func18 (by kernel_rfl) rfl #[.pointer (some ⟨g, 0, none⟩), .int .i64 2] rfl (by (try simp only [List.map_toArray, List.map_cons, List.map_nil]); first | done | rfl | (simp only [List.length_drop, List.length_take]; rfl)) ?_; (with_reducible refine (turncockmake_Tape_Next.calls g s0_0 x1001_1 2 t218 t219 w0 _ ?side1 ?side2 A8.out).mono ?_); (case side1 => repeat (first | (with_reducible first | exact HI0.out | apply IsS39.alloc | apply IsS39.drewN | apply IsS39.drew | apply IsS39.set_1 | refine IsS39.far ?_ NB0_211.out _ | refine IsS39.far ?_ NB0_212.out _) | exact HI0.out)); (case side2 => repeat (first | (with_reducible first | exact HB.out | apply below_alloc | apply pw_below_drewN | apply below_drew1 | refine below_set ?_ (IsS39.ge HI0.out) | refine below_set ?_ GE211.out | refine below_set ?_ GE212.out) | exact HB.out)); rintro e w18 ⟨rfl, hi, hb, hk⟩; refine ⟨_, rfl, ?_⟩; have n0_ := Aside0.mk (Kd.R_mono (Kd.R_keep (IsS39.apart (show IsS39 w0 _ g s0_0 x1001_1 from by repeat (first | (with_reducible first | exact HI0.out | apply IsS39.alloc | apply IsS39.drewN | apply IsS39.drew | apply IsS39.set_1 | refine IsS39.far ?_ NB0_211.out _ | refine IsS39.far ?_ NB0_212.out _) | exact HI0.out)) (by (with_reducible repeat (first | apply Kd.R_alloc | apply Kd.R_drewN | apply Kd.R_drew)); exact HO_213000.out) (by decide)) hk (fun _ h => h.2)) (fun _ h => h.1)); have n1_ := Aside0.mk (KeepBut.blk hk (g' := gb211) (o := .cells #[.slice none 0 0] 35 (0, 0)) (by (with_reducible repeat (first | refine blk_drewN ?_ _ | refine blk_drew ?_ | refine blk_alloc ?_ _)); exact BK211.out) NB211_0.out (by simp)); have n2_ := Aside0.mk (KeepBut.blk hk (g' := gb212) (o := .cells #[u213000] 35 (0, 0)) (by (with_reducible repeat (first | refine blk_drewN ?_ _ | refine blk_drew ?_ | refine blk_alloc ?_ _)); exact BK212.out) NB212_0.out (by simp)); have n3_ := Aside0.mk (Kd.R_mono (Kd.R_keep (IsS39.apart (show IsS39 w0 _ g s0_0 x1001_1 from by repeat (first | (with_reducible first | exact HI0.out | apply IsS39.alloc | apply IsS39.drewN | apply IsS39.drew | apply IsS39.set_1 | refine IsS39.far ?_ NB0_211.out _ | refine IsS39.far ?_ NB0_212.out _) | exact HI0.out)) (by (with_reducible repeat (first | apply Kd.R_alloc | apply Kd.R_drewN | apply Kd.R_drew)); exact HO217.out) (by decide)) hk (fun _ h => h.2)) (fun _ h => h.1)); have n4_ := Aside0.mk (KeepBut.trans (by repeat (first | (with_reducible first | exact HK.out | apply KeepBut.set_ | apply keep_drewN | apply keep_drew | apply keep_alloc | refine keep_far ?_ GW211.out _ | refine keep_far ?_ GW212.out _) | exact HK.out)) hk (.inl rfl)); have n5_ := Aside0.mk (hb); have n6_ := Aside0.mk (hi); clear HO_213000; clear BK211; clear BK212; clear HO217; clear HK; clear HB; clear HI0; have HO_213000 := n0_; have BK211 := n1_; have BK212 := n2_; have HO217 := n3_; have HK := n4_; have HB := n5_; have HI0 := n6_; clear n0_ n1_ n2_ n3_ n4_ n5_ n6_; (try clear hb); (try clear hb2); (try clear hk); (try clear hi); obtain ⟨Ao19, co19, eo19⟩ := Kd.R_slice HO217.out; subst eo19; have p220 : 0 ≤ (t218 : Int) := of_decide_eq_true (by first | (with_reducible assumption) | assumption); have q220 : t218 < (t215.length : Int) := of_decide_eq_true (by first | (with_reducible assumption) | assumption); obtain ⟨ad220, e220, hx220_0⟩ := Kd.at_string (Kd.R_reads' HO217.out).2.2 t218 p220 q220; cases e220; replace p220 := eq_true p220; replace q220 := eq_true q220) | ((with_reducible refine gate_callee (f := 18) rfl ?_); refine goesL_ (some 21) rfl rfl Try.func18 (by kernel_rfl) rfl #[.pointer (some ⟨g, 0, none⟩), .int .i64 6] rfl (by (try simp only [List.map_toArray, List.map_cons, List.map_nil]); first | done | rfl | (simp only [List.length_drop, List.length_take]; rfl)) ?_; (with_reducible refine (turncockmake_Tape_Next.calls g s0_0 t219 6 t221 t222 w0 _ ?side1 ?side2 A11.out).mono ?_); (case side1 => repeat (first | (with_reducible first | exact HI0.out | apply IsS39.alloc | apply IsS39.drewN | apply IsS39.drew | apply IsS39.set_1 | refine IsS39.far ?_ NB0_211.out _ | refine IsS39.far ?_ NB0_212.out _) | exact HI0.out)); (case side2 => repeat (first | (with_reducible first | exact HB.out | apply below_alloc | apply pw_below_drewN | apply below_drew1 | refine below_set ?_ (IsS39.ge HI0.out) | refine below_set ?_ GE211.out | refine below_set ?_ GE212.out) | exact HB.out)); rintro e w20 ⟨rfl, hi, hb, hk⟩; refine ⟨_, rfl, ?_⟩; have n0_ := Aside0.mk (Kd.R_mono (Kd.R_keep (IsS39.apart (show IsS39 w0 _ g s0_0 t219 from by repeat (first | (with_reducible first | exact HI0.out | apply IsS39.alloc | apply IsS39.drewN | apply IsS39.drew | apply IsS39.set_1 | refine IsS39.far ?_ NB0_211.out _ | refine IsS39.far ?_ NB0_212.out _) | exact HI0.out)) (by (with_reducible repeat (first | apply Kd.R_alloc | apply Kd.R_drewN | apply Kd.R_drew)); exact HO_213000.out) (by decide)) hk (fun _ h => h.2)) (fun _ h => h.1)); have n1_ := Aside0.mk (KeepBut.blk hk (g' := gb211) (o := .cells #[.slice none 0 0] 35 (0, 0)) (by (with_reducible repeat (first | refine blk_drewN ?_ _ | refine blk_drew ?_ | refine blk_alloc ?_ _)); exact BK211.out) NB211_0.out (by simp)); have n2_ := Aside0.mk (KeepBut.blk hk (g' := gb212) (o := .cells #[u213000] 35 (0, 0)) (by (with_reducible repeat (first | refine blk_drewN ?_ _ | refine blk_drew ?_ | refine blk_alloc ?_ _)); exact BK212.out) NB212_0.out (by simp)); have n3_ := Aside0.mk (Kd.R_mono (Kd.R_keep (IsS39.apart (show IsS39 w0 _ g s0_0 t219 from by repeat (first | (with_reducible first | exact HI0.out | apply IsS39.alloc | apply IsS39.drewN | apply IsS39.drew | apply IsS39.set_1 | refine IsS39.far ?_ NB0_211.out _ | refine IsS39.far ?_ NB0_212.out _) | exact HI0.out)) (by (with_reducible repeat (first | apply Kd.R_alloc | apply Kd.R_drewN | apply Kd.R_drew)); exact HO217.out) (by decide)) hk (fun _ h => h.2)) (fun _ h => h.1)); have n4_ := Aside0.mk (KeepBut.trans (by repeat (first | (with_reducible first | exact HK.out | apply KeepBut.set_ | apply keep_drewN | apply keep_drew | apply keep_alloc | refine keep_far ?_ GW211.out _ | refine keep_far ?_ GW212.out _) | exact HK.out)) hk (.inl rfl)); have n5_ := Aside0.mk (hb); have n6_ := Aside0.mk (hi); clear HO_213000; clear BK211; clear BK212; clear HO217; clear HK; clear HB; clear HI0; have HO_213000 := n0_; have BK211 := n1_; have BK212 := n2_; have HO217 := n3_; have HK := n4_; have HB := n5_; have HI0 := n6_; clear n0_ n1_ n2_ n3_ n4_ n5_ n6_; (try clear hb); (try clear hb2); (try clear hk); (try clear hi)) | ((with_reducible refine gate_callee (f := 23) rfl ?_); refine goesL_ (some 24) rfl rfl Try.func23 (by kernel_rfl) rfl #[] rfl (by (try simp only [List.map_toArray, List.map_cons, List.map_nil]); first | done | rfl | (simp only [List.length_drop, List.length_take]; rfl)) ?_; (with_reducible refine (turncockmake_Values.calls  t223 _ A13.out).mono ?_); rintro e w21 ⟨v224, rfl, ho0, hb⟩; refine ⟨_, rfl, ?_⟩; have n0_ := Aside0.mk (Kd.R_below (by (with_reducible repeat (first | apply Kd.R_alloc | apply Kd.R_drewN | apply Kd.R_drew)); exact HO_213000.out) hb); have n1_ := Aside0.mk (Kd.R_elder' (by (with_reducible repeat (first | apply Kd.R_alloc | apply Kd.R_drewN | apply Kd.R_drew)); exact HO217.out) (Kd.R_base ho0) hb); have n2_ := Aside0.mk (Kd.R_lower (Kd.R_new' ho0 (Kd.R_lt (by (with_reducible repeat (first | apply Kd.R_alloc | apply Kd.R_drewN | apply Kd.R_drew)); exact HO217.out))) (keep_size (w := w) (g := g) (row := none) (by repeat (first | (with_reducible first | exact HK.out | apply KeepBut.set_ | apply keep_drewN | apply keep_drew | apply keep_alloc | refine keep_far ?_ GW211.out _ | refine keep_far ?_ GW212.out _) | exact HK.out)))); have n3_ := Aside0.mk (blk_below (g := gb211) (o := .cells #[.slice none 0 0] 35 (0, 0)) (by (with_reducible repeat (first | refine blk_drewN ?_ _ | refine blk_drew ?_ | refine blk_alloc ?_ _)); exact BK211.out) hb); have n4_ := Aside0.mk (blk_below (g := gb212) (o := .cells #[u213000] 35 (0, 0)) (by (with_reducible repeat (first | refine blk_drewN ?_ _ | refine blk_drew ?_ | refine blk_alloc ?_ _)); exact BK212.out) hb); have n5_ := Aside0.mk (IsS39.below (by repeat (first | (with_reducible first | exact HI0.out | apply IsS39.alloc | apply IsS39.drewN | apply IsS39.drew | apply IsS39.set_1 | refine IsS39.far ?_ NB0_211.out _ | refine IsS39.far ?_ NB0_212.out _) | exact HI0.out)) hb); have n6_ := Aside0.mk (KeepBut.trans (by repeat (first | (with_reducible first | exact HK.out | apply KeepBut.set_ | apply keep_drewN | apply keep_drew | apply keep_alloc | refine keep_far ?_ GW211.out _ | refine keep_far ?_ GW212.out _) | exact HK.out)) (KeepBut.of_below hb g none) (.inl rfl)); have n7_ := Aside0.mk (below_step (by repeat (first | (with_reducible first | exact HB.out | apply below_alloc | apply pw_below_drewN | apply below_drew1 | refine below_set ?_ (IsS39.ge HI0.out) | refine below_set ?_ GE211.out | refine below_set ?_ GE212.out) | exact HB.out)) hb); clear HO_213000; clear HO217; clear BK211; clear BK212; clear HI0; clear HK; clear HB; have HO_213000 := n0_; have HO217 := n1_; have HO225 := n2_; have BK211 := n3_; have BK212 := n4_; have HI0 := n5_; have HK := n6_; have HB := n7_; clear n0_ n1_ n2_ n3_ n4_ n5_ n6_ n7_; (try clear hb); (try clear hb2); (try clear hk); (try clear hi); (try clear ho0); obtain ⟨Ao22, co22, eo22⟩ := Kd.R_slice HO225.out; subst eo22) | ((with_reducible refine gate_callee (f := 24) rfl ?_); refine goesL_ (some 25) rfl rfl Try.func24 (by kernel_rfl) rfl #[.pointer (some ⟨g, 0, none⟩), .slice Ao22 t223.length co22] rfl (by (try simp only [List.map_toArray, List.map_cons, List.map_nil]); first | done | rfl | (simp only [List.length_drop, List.length_take]; rfl)) ?_; (with_reducible refine (turncockmake_Tape_Of.calls g s0_0 t222 _ _ t223 t226 t227 w0 _ ?side1 ?side2 ?side3 ?side4 ?side5 A14.out).mono ?_); (case side1 => repeat (first | (with_reducible first | exact HI0.out | apply IsS39.alloc | apply IsS39.drewN | apply IsS39.drew | apply IsS39.set_1 | refine IsS39.far ?_ NB0_211.out _ | refine IsS39.far ?_ NB0_212.out _) | exact HI0.out)); (case side2 => repeat (first | (with_reducible first | exact HB.out | apply below_alloc | apply pw_below_drewN | apply below_drew1 | refine below_set ?_ (IsS39.ge HI0.out) | refine below_set ?_ GE211.out | refine below_set ?_ GE212.out) | exact HB.out)); (case side3 => repeat (first | exact (Kd.R_reads' HO225.out).2.2 | (with_reducible refine Kd.C_alloc ?_ _) | (with_reducible refine Kd.C_drewN ?_ _) | (with_reducible refine Kd.C_drew ?_))); (case side4 => exact (Kd.R_reads' HO225.out).2.1); (case side5 => exact far_slice (IsS39.own_ne HI0.out HO225.out (by decide))); rintro e w23 ⟨rfl, hi, hb, hk⟩; refine ⟨_, rfl, ?_⟩; have n0_ := Aside0.mk (Kd.R_mono (Kd.R_keep (IsS39.apart (show IsS39 w0 _ g s0_0 t222 from by repeat (first | (with_reducible first | exact HI0.out | apply IsS39.alloc | apply IsS39.drewN | apply IsS39.drew | apply IsS39.set_1 | refine IsS39.far ?_ NB0_211.out _ | refine IsS39.far ?_ NB0_212.out _) | exact HI0.out)) (by (with_reducible repeat (first | apply Kd.R_alloc | apply Kd.R_drewN | apply Kd.R_drew)); exact HO_213000.out) (by decide)) hk (fun _ h => h.2)) (fun _ h => h.1)); have n1_ := Aside0.mk (KeepBut.blk hk (g' := gb211) (o := .cells #[.slice none 0 0] 35 (0, 0)) (by (with_reducible repeat (first | refine blk_drewN ?_ _ | refine blk_drew ?_ | refine blk_alloc ?_ _)); exact BK211.out) NB211_0.out (by simp)); have n2_ := Aside0.mk (KeepBut.blk hk (g' := gb212) (o := .cells #[u213000] 35 (0, 0)) (by (with_reducible repeat (first | refine blk_drewN ?_ _ | refine blk_drew ?_ | refine blk_alloc ?_ _)); exact BK212.out) NB212_0.out (by simp)); have n3_ := Aside0.mk (Kd.R_mono (Kd.R_keep (IsS39.apart (show IsS39 w0 _ g s0_0 t222 from by repeat (first | (with_reducible first | exact HI0.out | apply IsS39.alloc | apply IsS39.drewN | apply IsS39.drew | apply IsS39.set_1 | refine IsS39.far ?_ NB0_211.out _ | refine IsS39.far ?_ NB0_212.out _) | exact HI0.out)) (by (with_reducible repeat (first | apply Kd.R_alloc | apply Kd.R_drewN | apply Kd.R_drew)); exact HO217.out) (by decide)) hk (fun _ h => h.2)) (fun _ h => h.1)); have n4_ := Aside0.mk (Kd.R_mono (Kd.R_keep (IsS39.apart (show IsS39 w0 _ g s0_0 t222 from by repeat (first | (with_reducible first | exact HI0.out | apply IsS39.alloc | apply IsS39.drewN | apply IsS39.drew | apply IsS39.set_1 | refine IsS39.far ?_ NB0_211.out _ | refine IsS39.far ?_ NB0_212.out _) | exact HI0.out)) (by (with_reducible repeat (first | apply Kd.R_alloc | apply Kd.R_drewN | apply Kd.R_drew)); exact HO225.out) (by decide)) hk (fun _ h => h.2)) (fun _ h => h.1)); have n5_ := Aside0.mk (KeepBut.trans (by repeat (first | (with_reducible first | exact HK.out | apply KeepBut.set_ | apply keep_drewN | apply keep_drew | apply keep_alloc | refine keep_far ?_ GW211.out _ | refine keep_far ?_ GW212.out _) | exact HK.out)) hk (.inl rfl)); have n6_ := Aside0.mk (hb); have n7_ := Aside0.mk (hi); clear HO_213000; clear BK211; clear BK212; clear HO217; clear HO225; clear HK; clear HB; clear HI0; have HO_213000 := n0_; have BK211 := n1_; have BK212 := n2_; have HO217 := n3_; have HO225 := n4_; have HK := n5_; have HB := n6_; have HI0 := n7_; clear n0_ n1_ n2_ n3_ n4_ n5_ n6_ n7_; (try clear hb); (try clear hb2); (try clear hk); (try clear hi)))
                have n0_ := Aside0.mk (Kd.R_drew HO_213000.out)
                have n1_ := Aside0.mk (Kd.R_drew HO217.out)
                have n2_ := Aside0.mk (Kd.R_drew HO225.out)
                have n3_ := Aside0.mk (blk_drew BK211.out)
                have n4_ := Aside0.mk (blk_drew BK212.out)
                have n5_ := Aside0.mk (IsS39.drew HI0.out)
                have n6_ := Aside0.mk (keep_drew HK.out)
                have n7_ := Aside0.mk (below_drew1 HB.out)
                clear HO_213000
                clear HO217
                clear HO225
                clear BK211
                clear BK212
                clear HI0
                clear HK
                clear HB
                have HO_213000 := n0_
                have HO217 := n1_
                have HO225 := n2_
                have BK211 := n3_
                have BK212 := n4_
                have HI0 := n5_
                have HK := n6_
                have HB := n7_
                clear n0_ n1_ n2_ n3_ n4_ n5_ n6_ n7_
                refine start_ (n := 10) (S := fun w' => w'.cell? ⟨gb212, 0, none⟩ = some (u213000)) (ds := [9]) #[false, false, false, false, false, false, false, false, false, false] (by kernel_rfl) rfl rfl ((blk_cell BK212.out 0).trans rfl) (fun hHeld => ?_); refine with_tabW turncockmake_Desc.tab9 turncockmake_Desc.bits9 (fun HT_ HW_ => ?_)
                generalize w23.drew = w24 at HO_213000 HO217 HO225 BK211 BK212 HI0 HK HB hHeld ⊢
                refine pure_ (i := 0) (N := some 26) (v := ?_) (a' := ?_) #[true, false, false, false, false, false, false, false, false, false] rfl rfl (any_of HT_.out (by kernel_rfl)) (fun _ _ _ h => h) (Or.inl ⟨by rfl, ?_⟩) ?_ ?_
                rotate_left
                · intro w'
                  go_simp
                  (first | with_reducible rfl | (rw [if_neg (by first | omega | (simp only [ByteArray.size_append] at *; omega) | (have hl_ : ∀ l_ : List UInt8, (⟨l_.toArray⟩ : ByteArray).size = l_.length := (fun l_ => by show l_.toArray.size = _; simp); simp only [ByteArray.size_append, hl_, List.length_cons, List.length_nil] at *; omega))]))
                rotate_left
                · simp only [Act.put, List.setIfInBounds_toArray, List.set_cons_zero, List.set_cons_succ, i64_w, i32_w]
                  rfl
                refine pure_ (i := 2) (N := some 28) (v := ?_) (a' := ?_) #[true, false, true, false, false, false, false, false, false, false] rfl rfl (any_of HT_.out (by kernel_rfl)) (fun _ _ _ h => h) (Or.inl ⟨by rfl, ?_⟩) ?_ ?_
                rotate_left
                · intro w'
                  go_simp
                  (first | with_reducible rfl | (rw [if_neg (by first | omega | (simp only [ByteArray.size_append] at *; omega) | (have hl_ : ∀ l_ : List UInt8, (⟨l_.toArray⟩ : ByteArray).size = l_.length := (fun l_ => by show l_.toArray.size = _; simp); simp only [ByteArray.size_append, hl_, List.length_cons, List.length_nil] at *; omega))]))
                rotate_left
                · simp only [Act.put, List.setIfInBounds_toArray, List.set_cons_zero, List.set_cons_succ, i64_w, i32_w]
                  rfl
                refine pure_ (i := 4) (N := some 30) (v := ?_) (a' := ?_) #[true, false, true, false, true, false, false, false, false, false] rfl rfl (any_of HT_.out (by kernel_rfl)) (fun _ _ _ h => h) (Or.inl ⟨by rfl, ?_⟩) ?_ ?_
                rotate_left
                · intro w'
                  go_simp
                  (first | with_reducible rfl | (rw [if_neg (by first | omega | (simp only [ByteArray.size_append] at *; omega) | (have hl_ : ∀ l_ : List UInt8, (⟨l_.toArray⟩ : ByteArray).size = l_.length := (fun l_ => by show l_.toArray.size = _; simp); simp only [ByteArray.size_append, hl_, List.length_cons, List.length_nil] at *; omega))]))
                rotate_left
                · simp only [Act.put, List.setIfInBounds_toArray, List.set_cons_zero, List.set_cons_succ, i64_w, i32_w]
                  rfl
                refine take_ (i := 1) (N := some 27) (v := ?_) (a' := ?_) #[true, true, true, false, true, false, false, false, false, false] rfl rfl (take_ofW HT_.out HW_.out (by kernel_rfl)) (fun _ _ _ h => h) (Or.inl ⟨by rfl, ?_⟩) hHeld ?_ ?_
                rotate_left
                · intro w' s0
                  go_simp
                  (first | with_reducible rfl | (rw [if_neg (by first | omega | (simp only [ByteArray.size_append] at *; omega) | (have hl_ : ∀ l_ : List UInt8, (⟨l_.toArray⟩ : ByteArray).size = l_.length := (fun l_ => by show l_.toArray.size = _; simp); simp only [ByteArray.size_append, hl_, List.length_cons, List.length_nil] at *; omega))]))
                rotate_left
                · simp only [Act.put, List.setIfInBounds_toArray, List.set_cons_zero, List.set_cons_succ, i64_w, i32_w]
                  rfl
                refine one_ (i := 3) (N := some 29) #[true, true, true, true, true, false, false, false, false, false] rfl rfl (one_of HT_.out (by kernel_rfl)) (by decide) (fun K hK => ?_)
                refine goes_ Try.func25 (by kernel_rfl) rfl #[.pointer (some ⟨g, 0, none⟩)] (by rfl) rfl rfl (by (try simp only [List.map_toArray, List.map_cons, List.map_nil]); first | done | rfl | (simp only [List.length_drop, List.length_take]; rfl)) ?_
                with_reducible refine (turncockmake_key.calls g s0_0 t227 t228 t229 w0 _ ?side1 ?side2 A15.out).mono ?_
                (case side1 => repeat (first | (with_reducible first | exact HI0.out | apply IsS39.alloc | apply IsS39.drewN | apply IsS39.drew | apply IsS39.set_1 | refine IsS39.far ?_ NB0_211.out _ | refine IsS39.far ?_ NB0_212.out _) | exact HI0.out))
                (case side2 => repeat (first | (with_reducible first | exact HB.out | apply below_alloc | apply pw_below_drewN | apply below_drew1 | refine below_set ?_ (IsS39.ge HI0.out) | refine below_set ?_ GE211.out | refine below_set ?_ GE212.out) | exact HB.out))
                rintro e w25 ⟨rfl, hi, hb, hk⟩
                refine ⟨_, rfl, ?_⟩
                have n0_ := Aside0.mk (Kd.R_mono (Kd.R_keep (IsS39.apart (show IsS39 w0 _ g s0_0 t227 from by repeat (first | (with_reducible first | exact HI0.out | apply IsS39.alloc | apply IsS39.drewN | apply IsS39.drew | apply IsS39.set_1 | refine IsS39.far ?_ NB0_211.out _ | refine IsS39.far ?_ NB0_212.out _) | exact HI0.out)) (by (with_reducible repeat (first | apply Kd.R_alloc | apply Kd.R_drewN | apply Kd.R_drew)); exact HO_213000.out) (by decide)) hk (fun _ h => h.2)) (fun _ h => h.1))
                have n1_ := Aside0.mk (KeepBut.blk hk (g' := gb211) (o := .cells #[.slice none 0 0] 35 (0, 0)) (by (with_reducible repeat (first | refine blk_drewN ?_ _ | refine blk_drew ?_ | refine blk_alloc ?_ _)); exact BK211.out) NB211_0.out (by simp))
                have n2_ := Aside0.mk (KeepBut.blk hk (g' := gb212) (o := .cells #[u213000] 35 (0, 0)) (by (with_reducible repeat (first | refine blk_drewN ?_ _ | refine blk_drew ?_ | refine blk_alloc ?_ _)); exact BK212.out) NB212_0.out (by simp))
                have n3_ := Aside0.mk (Kd.R_mono (Kd.R_keep (IsS39.apart (show IsS39 w0 _ g s0_0 t227 from by repeat (first | (with_reducible first | exact HI0.out | apply IsS39.alloc | apply IsS39.drewN | apply IsS39.drew | apply IsS39.set_1 | refine IsS39.far ?_ NB0_211.out _ | refine IsS39.far ?_ NB0_212.out _) | exact HI0.out)) (by (with_reducible repeat (first | apply Kd.R_alloc | apply Kd.R_drewN | apply Kd.R_drew)); exact HO217.out) (by decide)) hk (fun _ h => h.2)) (fun _ h => h.1))
                have n4_ := Aside0.mk (Kd.R_mono (Kd.R_keep (IsS39.apart (show IsS39 w0 _ g s0_0 t227 from by repeat (first | (with_reducible first | exact HI0.out | apply IsS39.alloc | apply IsS39.drewN | apply IsS39.drew | apply IsS39.set_1 | refine IsS39.far ?_ NB0_211.out _ | refine IsS39.far ?_ NB0_212.out _) | exact HI0.out)) (by (with_reducible repeat (first | apply Kd.R_alloc | apply Kd.R_drewN | apply Kd.R_drew)); exact HO225.out) (by decide)) hk (fun _ h => h.2)) (fun _ h => h.1))
                have n5_ := Aside0.mk (KeepBut.trans (by repeat (first | (with_reducible first | exact HK.out | apply KeepBut.set_ | apply keep_drewN | apply keep_drew | apply keep_alloc | refine keep_far ?_ GW211.out _ | refine keep_far ?_ GW212.out _) | exact HK.out)) hk (.inl rfl))
                have n6_ := Aside0.mk (hb)
                have n7_ := Aside0.mk (hi)
                clear HO_213000
                clear BK211
                clear BK212
                clear HO217
                clear HO225
                clear HK
                clear HB
                clear HI0
                have HO_213000 := n0_
                have BK211 := n1_
                have BK212 := n2_
                have HO217 := n3_
                have HO225 := n4_
                have HK := n5_
                have HB := n6_
                have HI0 := n7_
                clear n0_ n1_ n2_ n3_ n4_ n5_ n6_ n7_
                (try clear hb)
                (try clear hb2)
                (try clear hk)
                (try clear hi)
                refine hK.out _ _ ((blk_cell BK212.out 0).trans rfl) (fun hHeld => ?_)
                clear hK K
                refine norm_ (a' := ?_) ?_ ?_
                rotate_left
                · show Act.put _ (some 29) _ = _
                  simp only [Act.put, List.setIfInBounds_toArray, List.set_cons_zero, List.set_cons_succ, i64_w, i32_w]
                  rfl
                refine pure_ (i := 5) (N := some 31) (v := ?_) (a' := ?_) #[true, true, true, true, true, true, false, false, false, false] rfl rfl (any_of HT_.out (by kernel_rfl)) (fun _ _ _ h => h) (Or.inl ⟨by rfl, ?_⟩) ?_ ?_
                rotate_left
                · intro w'
                  go_simp
                  (first | with_reducible rfl | (rw [if_neg (by first | omega | (simp only [ByteArray.size_append] at *; omega) | (have hl_ : ∀ l_ : List UInt8, (⟨l_.toArray⟩ : ByteArray).size = l_.length := (fun l_ => by show l_.toArray.size = _; simp); simp only [ByteArray.size_append, hl_, List.length_cons, List.length_nil] at *; omega))]))
                rotate_left
                · simp only [Act.put, List.setIfInBounds_toArray, List.set_cons_zero, List.set_cons_succ, i64_w, i32_w]
                  rfl
                refine one_ (i := 6) (N := some 32) #[true, true, true, true, true, true, true, false, false, false] rfl rfl (one_of HT_.out (by kernel_rfl)) (by decide) (fun K hK => ?_)
                refine value_ (w1 := ?_) (v := ?_) (by rfl) rfl ?_ ?_
                rotate_left 2
                · go_simp
                  constructor
                  · rfl
                  · rfl
                refine hK.out _ _ ((blk_cell (blk_alloc BK212.out _) 0).trans rfl) (fun hHeld => ?_)
                clear hK K
                refine norm_ (a' := ?_) ?_ ?_
                rotate_left
                · show Act.put _ (some 32) _ = _
                  simp only [Act.put, List.setIfInBounds_toArray, List.set_cons_zero, List.set_cons_succ, i64_w, i32_w]
                  rfl
                refine one_ (i := 7) (N := some 33) #[true, true, true, true, true, true, true, true, false, false] rfl rfl (one_of HT_.out (by kernel_rfl)) (by decide) (fun K hK => ?_)
                refine Kd.R_append_step k48 w.heap.size (by rfl) (.tmp 27) (.tmp 32) 33 48 (.agg #[(.string ⟨#[]⟩), (.string ⟨#[]⟩)]) 32 rfl Try.underlying33 info48 rfl (by decide) (by omega) u213000 x213000_1 (⟨t228, t226⟩ : S48) [.string t228, .string t226] (fun _ => True) (fun _ => False) rfl rfl ?aP (fun _ hk => hk.elim) ?aF ?aO (Below.refl _ _) ?aS ?aL ?_
                (case aP => exact k48_mkM _ _ _ (⟨t228, t226⟩ : S48))
                (case aF => exact (fun _ _ => trivial))
                (case aO => exact (by (with_reducible repeat (first | apply Kd.R_alloc | apply Kd.R_drewN | apply Kd.R_drew)); exact HO_213000.out))
                (case aS => exact (keep_size (w := w) (g := g) (row := none) (by repeat (first | (with_reducible first | exact HK.out | apply KeepBut.set_ | apply keep_drewN | apply keep_drew | apply keep_alloc | refine keep_far ?_ GW211.out _ | refine keep_far ?_ GW212.out _) | exact HK.out))))
                (case aL => have := LMc16.out; omega)
                intro v231 w26 ho hb hg hat
                rw [← Ny230.out] at ho
                have n0_ := Aside0.mk (blk_grown (g := gb211) (o := .cells #[.slice none 0 0] 35 (0, 0)) (by (with_reducible repeat (first | refine blk_drewN ?_ _ | refine blk_drew ?_ | refine blk_alloc ?_ _)); exact BK211.out) hg (Kd.R_ne HO_213000.out BK211.out (by decide)))
                have n1_ := Aside0.mk (blk_grown (g := gb212) (o := .cells #[u213000] 35 (0, 0)) (by (with_reducible repeat (first | refine blk_drewN ?_ _ | refine blk_drew ?_ | refine blk_alloc ?_ _)); exact BK212.out) hg (Kd.R_ne HO_213000.out BK212.out (by decide)))
                have n2_ := Aside0.mk (IsS39.grown (by repeat (first | (with_reducible first | exact HI0.out | apply IsS39.alloc | apply IsS39.drewN | apply IsS39.drew | apply IsS39.set_1 | refine IsS39.far ?_ NB0_211.out _ | refine IsS39.far ?_ NB0_212.out _) | exact HI0.out)) hg (IsS39.own_ne HI0.out HO_213000.out (by decide)))
                have n3_ := Aside0.mk (Kd.R_over' (by (with_reducible repeat (first | apply Kd.R_alloc | apply Kd.R_drewN | apply Kd.R_drew)); exact HO217.out) (Kd.R_typed (by (with_reducible repeat (first | apply Kd.R_alloc | apply Kd.R_drewN | apply Kd.R_drew)); exact HO_213000.out)) (by decide) hg)
                have n4_ := Aside0.mk (Kd.R_over' (by (with_reducible repeat (first | apply Kd.R_alloc | apply Kd.R_drewN | apply Kd.R_drew)); exact HO225.out) (Kd.R_typed (by (with_reducible repeat (first | apply Kd.R_alloc | apply Kd.R_drewN | apply Kd.R_drew)); exact HO_213000.out)) (by decide) hg)
                have n5_ := Aside0.mk (below_weaken (by repeat (first | (with_reducible first | exact HB.out | apply below_alloc | apply pw_below_drewN | apply below_drew1 | refine below_set ?_ (IsS39.ge HI0.out) | refine below_set ?_ GE211.out | refine below_set ?_ GE212.out) | exact HB.out)) HL.out hb)
                have n6_ := Aside0.mk (KeepBut.trans (by repeat (first | (with_reducible first | exact HK.out | apply KeepBut.set_ | apply keep_drewN | apply keep_drew | apply keep_alloc | refine keep_far ?_ GW211.out _ | refine keep_far ?_ GW212.out _) | exact HK.out)) (KeepBut.of_grown hg g) (Kd.R_base2 HO_213000.out))
                have n7_ := Aside0.mk (ho)
                clear BK211
                clear BK212
                clear HI0
                clear HO217
                clear HO225
                clear HB
                clear HK
                clear HO_213000
                have BK211 := n0_
                have BK212 := n1_
                have HI0 := n2_
                have HO217 := n3_
                have HO225 := n4_
                have HB := n5_
                have HK := n6_
                have HO232 := n7_
                clear n0_ n1_ n2_ n3_ n4_ n5_ n6_ n7_
                clear ho hb hg hat
                obtain ⟨Ao27, co27, eo27⟩ := Kd.R_slice HO232.out
                (first | subst eo27 | (injection eo27 with f1_ f2_ f3_; have f4_ := f1_.symm; have f5_ := f3_.symm; clear f1_ f2_ f3_; subst f4_; subst f5_))
                refine hK.out _ _ ((blk_cell BK212.out 0).trans rfl) (fun hHeld => ?_)
                clear hK K
                refine norm_ (a' := ?_) ?_ ?_
                rotate_left
                · show Act.put _ (some 33) _ = _
                  simp only [Act.put, List.setIfInBounds_toArray, List.set_cons_zero, List.set_cons_succ, i64_w, i32_w]
                  rfl
                refine pure_ (i := 8) (N := some 34) (v := ?_) (a' := ?_) #[true, true, true, true, true, true, true, true, true, false] rfl rfl (any_of HT_.out (by kernel_rfl)) (fun _ _ _ h => h) (Or.inl ⟨by rfl, ?_⟩) ?_ ?_
                rotate_left
                · intro w'
                  go_simp
                  (first | with_reducible rfl | (rw [if_neg (by first | omega | (simp only [ByteArray.size_append] at *; omega) | (have hl_ : ∀ l_ : List UInt8, (⟨l_.toArray⟩ : ByteArray).size = l_.length := (fun l_ => by show l_.toArray.size = _; simp); simp only [ByteArray.size_append, hl_, List.length_cons, List.length_nil] at *; omega))]))
                rotate_left
                · simp only [Act.put, List.setIfInBounds_toArray, List.set_cons_zero, List.set_cons_succ, i64_w, i32_w]
                  rfl
                refine last_ (i := 9) (N := none) #[true, true, true, true, true, true, true, true, true, true] rfl rfl (one_of HT_.out (by kernel_rfl)) (by decide) (fun K hK => ?_)
                have hs28 : w26.cell? ⟨gb212, 0, none⟩ = some (u213000) := (blk_cell BK212.out 0).trans rfl
                have hfs28 := blk_frozen BK212.out 0
                have hns28_0 := NB211_212.out
                have hms28_0 := NB212_211.out
                refine skip_ (w1 := ?_) (by rfl) rfl ?_ ?_
                rotate_left
                · go_simp
                  rfl
                refine hK.out _ _ ?_
                clear hK K
                refine done_ (done_of HT_.out (by kernel_rfl)) ?_
                try go_wp2
                go_roundg k1
                case measure => have := HK1.out; omega
                case rel => exact ⟨(wrap64 (x5_1 + 1)), (t229), (y230), (.slice Ao27 y230.length co27), (by first | rfl | (simp; done) | (simp [*]; done)), H', ⟨by have := HK1.out; omega⟩, ⟨by (with_reducible repeat (first | apply Kd.R_alloc | apply Kd.R_drewN | apply Kd.R_drew)); exact Kd.R_mono (Kd.R_far (p := ⟨gb212, 0, none⟩) (Kd.R_types HO232.out BK212.out (by decide)) (fun _ hk => hk.2) (.slice Ao27 y230.length co27)) (fun _ hk => trivial)⟩, ⟨by (with_reducible repeat (first | refine blk_drewN ?_ _ | refine blk_drew ?_ | refine blk_alloc ?_ _)); refine blk_far ?_ NB211_212.out _; (with_reducible repeat (first | refine blk_drewN ?_ _ | refine blk_drew ?_ | refine blk_alloc ?_ _)); exact BK211.out⟩, ⟨by (with_reducible repeat (first | refine blk_drewN ?_ _ | refine blk_drew ?_ | refine blk_alloc ?_ _)); refine blk_put (cs := #[u213000]) ?_ 0 _ rfl; (with_reducible repeat (first | refine blk_drewN ?_ _ | refine blk_drew ?_ | refine blk_alloc ?_ _)); exact BK212.out⟩, ⟨by repeat (first | (with_reducible first | exact HI0.out | apply IsS39.alloc | apply IsS39.drewN | apply IsS39.drew | apply IsS39.set_1 | refine IsS39.far ?_ NB0_211.out _ | refine IsS39.far ?_ NB0_212.out _) | exact HI0.out)⟩, ⟨by repeat (first | (with_reducible first | exact HK.out | apply KeepBut.set_ | apply keep_drewN | apply keep_drew | apply keep_alloc | refine keep_far ?_ GW211.out _ | refine keep_far ?_ GW212.out _) | exact HK.out)⟩, ⟨by repeat (first | (with_reducible first | exact HB.out | apply below_alloc | apply pw_below_drewN | apply below_drew1 | refine below_set ?_ (IsS39.ge HI0.out) | refine below_set ?_ GE211.out | refine below_set ?_ GE212.out) | exact HB.out)⟩⟩
              · rw [if_neg c16] at H
                exact absurd H (by simp)
            · rw [if_neg c12] at H
              have c12b0 : (t221 == 0) = false := beq_eq_false_iff_ne.mpr c12
              have c12b1 : (t221 != 0) = true := bne_iff_ne.mpr c12
              replace H := Option.bind_eq_some_iff.mp H
              obtain ⟨⟨t233, t234⟩, A290, H⟩ := H
              replace H : (if x213000_1.length < 4398046511104 then (turncockmake_Desc.l0 k1 (wrap64 (1 + t213)) (wrap64 (x5_1 + 1)) s0_0 t234 (x213000_1 ++ [(⟨t233, rdOf ByteArray.empty t215 t218⟩ : S48)])) else (none)) = some (r1, r2) := H
              have A29 := Aside0.mk A290
              clear A290
              by_cases c30 : x213000_1.length < 4398046511104
              · rw [if_pos c30] at H
                have LMc30 := Aside0.mk c30
                clear c30
                obtain ⟨y235, hy235⟩ : ∃ y_ : List (S48), y_ = (x213000_1 ++ [(⟨t233, rdOf ByteArray.empty t215 t218⟩ : S48)]) := ⟨_, rfl⟩
                replace H : (turncockmake_Desc.l0 k1 (wrap64 (1 + t213)) (wrap64 (x5_1 + 1)) s0_0 t234 y235) = some (r1, r2) := by first | (rw [hy235]; with_reducible exact H) | (have H2_ := (Option.bind_some _ _).symm.trans H; rw [hy235]; with_reducible exact H2_) | (have H2_ := (Option.bind_some _ _).symm.trans H; with_reducible exact H2_) | with_reducible exact H | (rw [hy235]; exact H) | exact H
                have Ny235 := Aside0.mk hy235
                clear hy235
                have H' := Aside0.mk H
                clear H
                try go_wp2_with (first | ((with_reducible refine gate_callee (f := 23) rfl ?_); refine goesL_ (some 15) rfl rfl Try.func23 (by kernel_rfl) rfl #[] rfl (by (try simp only [List.map_toArray, List.map_cons, List.map_nil]); first | done | rfl | (simp only [List.length_drop, List.length_take]; rfl)) ?_; (with_reducible refine (turncockmake_Values.calls  t215 _ A7.out).mono ?_); rintro e w31 ⟨v216, rfl, ho0, hb⟩; refine ⟨_, rfl, ?_⟩; have n0_ := Aside0.mk (Kd.R_below (by (with_reducible repeat (first | apply Kd.R_alloc | apply Kd.R_drewN | apply Kd.R_drew)); exact HO_213000.out) hb); have n1_ := Aside0.mk (Kd.R_lower ho0 (keep_size (w := w) (g := g) (row := none) (by repeat (first | (with_reducible first | exact HK.out | apply KeepBut.set_ | apply keep_drewN | apply keep_drew | apply keep_alloc | refine keep_far ?_ GW211.out _ | refine keep_far ?_ GW212.out _) | exact HK.out)))); have n2_ := Aside0.mk (blk_below (g := gb211) (o := .cells #[.slice none 0 0] 35 (0, 0)) (by (with_reducible repeat (first | refine blk_drewN ?_ _ | refine blk_drew ?_ | refine blk_alloc ?_ _)); exact BK211.out) hb); have n3_ := Aside0.mk (blk_below (g := gb212) (o := .cells #[u213000] 35 (0, 0)) (by (with_reducible repeat (first | refine blk_drewN ?_ _ | refine blk_drew ?_ | refine blk_alloc ?_ _)); exact BK212.out) hb); have n4_ := Aside0.mk (IsS39.below (by repeat (first | (with_reducible first | exact HI0.out | apply IsS39.alloc | apply IsS39.drewN | apply IsS39.drew | apply IsS39.set_1 | refine IsS39.far ?_ NB0_211.out _ | refine IsS39.far ?_ NB0_212.out _) | exact HI0.out)) hb); have n5_ := Aside0.mk (KeepBut.trans (by repeat (first | (with_reducible first | exact HK.out | apply KeepBut.set_ | apply keep_drewN | apply keep_drew | apply keep_alloc | refine keep_far ?_ GW211.out _ | refine keep_far ?_ GW212.out _) | exact HK.out)) (KeepBut.of_below hb g none) (.inl rfl)); have n6_ := Aside0.mk (below_step (by repeat (first | (with_reducible first | exact HB.out | apply below_alloc | apply pw_below_drewN | apply below_drew1 | refine below_set ?_ (IsS39.ge HI0.out) | refine below_set ?_ GE211.out | refine below_set ?_ GE212.out) | exact HB.out)) hb); clear HO_213000; clear BK211; clear BK212; clear HI0; clear HK; clear HB; have HO_213000 := n0_; have HO217 := n1_; have BK211 := n2_; have BK212 := n3_; have HI0 := n4_; have HK := n5_; have HB := n6_; clear n0_ n1_ n2_ n3_ n4_ n5_ n6_; (try clear hb); (try clear hb2); (try clear hk); (try clear hi); (try clear ho0)) | ((with_reducible refine gate_callee (f := 18) rfl ?_); refine goesL_ (some 17) rfl rfl Try.func18 (by kernel_rfl) rfl #[.pointer (some ⟨g, 0, none⟩), .int .i64 2] rfl (by (try simp only [List.map_toArray, List.map_cons, List.map_nil]); first | done | rfl | (simp only [List.length_drop, List.length_take]; rfl)) ?_; (with_reducible refine (turncockmake_Tape_Next.calls g s0_0 x1001_1 2 t218 t219 w0 _ ?side1 ?side2 A8.out).mono ?_); (case side1 => repeat (first | (with_reducible first | exact HI0.out | apply IsS39.alloc | apply IsS39.drewN | apply IsS39.drew | apply IsS39.set_1 | refine IsS39.far ?_ NB0_211.out _ | refine IsS39.far ?_ NB0_212.out _) | exact HI0.out)); (case side2 => repeat (first | (with_reducible first | exact HB.out | apply below_alloc | apply pw_below_drewN | apply below_drew1 | refine below_set ?_ (IsS39.ge HI0.out) | refine below_set ?_ GE211.out | refine below_set ?_ GE212.out) | exact HB.out)); rintro e w32 ⟨rfl, hi, hb, hk⟩; refine ⟨_, rfl, ?_⟩; have n0_ := Aside0.mk (Kd.R_mono (Kd.R_keep (IsS39.apart (show IsS39 w0 _ g s0_0 x1001_1 from by repeat (first | (with_reducible first | exact HI0.out | apply IsS39.alloc | apply IsS39.drewN | apply IsS39.drew | apply IsS39.set_1 | refine IsS39.far ?_ NB0_211.out _ | refine IsS39.far ?_ NB0_212.out _) | exact HI0.out)) (by (with_reducible repeat (first | apply Kd.R_alloc | apply Kd.R_drewN | apply Kd.R_drew)); exact HO_213000.out) (by decide)) hk (fun _ h => h.2)) (fun _ h => h.1)); have n1_ := Aside0.mk (KeepBut.blk hk (g' := gb211) (o := .cells #[.slice none 0 0] 35 (0, 0)) (by (with_reducible repeat (first | refine blk_drewN ?_ _ | refine blk_drew ?_ | refine blk_alloc ?_ _)); exact BK211.out) NB211_0.out (by simp)); have n2_ := Aside0.mk (KeepBut.blk hk (g' := gb212) (o := .cells #[u213000] 35 (0, 0)) (by (with_reducible repeat (first | refine blk_drewN ?_ _ | refine blk_drew ?_ | refine blk_alloc ?_ _)); exact BK212.out) NB212_0.out (by simp)); have n3_ := Aside0.mk (Kd.R_mono (Kd.R_keep (IsS39.apart (show IsS39 w0 _ g s0_0 x1001_1 from by repeat (first | (with_reducible first | exact HI0.out | apply IsS39.alloc | apply IsS39.drewN | apply IsS39.drew | apply IsS39.set_1 | refine IsS39.far ?_ NB0_211.out _ | refine IsS39.far ?_ NB0_212.out _) | exact HI0.out)) (by (with_reducible repeat (first | apply Kd.R_alloc | apply Kd.R_drewN | apply Kd.R_drew)); exact HO217.out) (by decide)) hk (fun _ h => h.2)) (fun _ h => h.1)); have n4_ := Aside0.mk (KeepBut.trans (by repeat (first | (with_reducible first | exact HK.out | apply KeepBut.set_ | apply keep_drewN | apply keep_drew | apply keep_alloc | refine keep_far ?_ GW211.out _ | refine keep_far ?_ GW212.out _) | exact HK.out)) hk (.inl rfl)); have n5_ := Aside0.mk (hb); have n6_ := Aside0.mk (hi); clear HO_213000; clear BK211; clear BK212; clear HO217; clear HK; clear HB; clear HI0; have HO_213000 := n0_; have BK211 := n1_; have BK212 := n2_; have HO217 := n3_; have HK := n4_; have HB := n5_; have HI0 := n6_; clear n0_ n1_ n2_ n3_ n4_ n5_ n6_; (try clear hb); (try clear hb2); (try clear hk); (try clear hi); obtain ⟨Ao33, co33, eo33⟩ := Kd.R_slice HO217.out; subst eo33; have p220 : 0 ≤ (t218 : Int) := of_decide_eq_true (by first | (with_reducible assumption) | assumption); have q220 : t218 < (t215.length : Int) := of_decide_eq_true (by first | (with_reducible assumption) | assumption); obtain ⟨ad220, e220, hx220_0⟩ := Kd.at_string (Kd.R_reads' HO217.out).2.2 t218 p220 q220; cases e220; replace p220 := eq_true p220; replace q220 := eq_true q220) | ((with_reducible refine gate_callee (f := 18) rfl ?_); refine goesL_ (some 21) rfl rfl Try.func18 (by kernel_rfl) rfl #[.pointer (some ⟨g, 0, none⟩), .int .i64 6] rfl (by (try simp only [List.map_toArray, List.map_cons, List.map_nil]); first | done | rfl | (simp only [List.length_drop, List.length_take]; rfl)) ?_; (with_reducible refine (turncockmake_Tape_Next.calls g s0_0 t219 6 t221 t222 w0 _ ?side1 ?side2 A11.out).mono ?_); (case side1 => repeat (first | (with_reducible first | exact HI0.out | apply IsS39.alloc | apply IsS39.drewN | apply IsS39.drew | apply IsS39.set_1 | refine IsS39.far ?_ NB0_211.out _ | refine IsS39.far ?_ NB0_212.out _) | exact HI0.out)); (case side2 => repeat (first | (with_reducible first | exact HB.out | apply below_alloc | apply pw_below_drewN | apply below_drew1 | refine below_set ?_ (IsS39.ge HI0.out) | refine below_set ?_ GE211.out | refine below_set ?_ GE212.out) | exact HB.out)); rintro e w34 ⟨rfl, hi, hb, hk⟩; refine ⟨_, rfl, ?_⟩; have n0_ := Aside0.mk (Kd.R_mono (Kd.R_keep (IsS39.apart (show IsS39 w0 _ g s0_0 t219 from by repeat (first | (with_reducible first | exact HI0.out | apply IsS39.alloc | apply IsS39.drewN | apply IsS39.drew | apply IsS39.set_1 | refine IsS39.far ?_ NB0_211.out _ | refine IsS39.far ?_ NB0_212.out _) | exact HI0.out)) (by (with_reducible repeat (first | apply Kd.R_alloc | apply Kd.R_drewN | apply Kd.R_drew)); exact HO_213000.out) (by decide)) hk (fun _ h => h.2)) (fun _ h => h.1)); have n1_ := Aside0.mk (KeepBut.blk hk (g' := gb211) (o := .cells #[.slice none 0 0] 35 (0, 0)) (by (with_reducible repeat (first | refine blk_drewN ?_ _ | refine blk_drew ?_ | refine blk_alloc ?_ _)); exact BK211.out) NB211_0.out (by simp)); have n2_ := Aside0.mk (KeepBut.blk hk (g' := gb212) (o := .cells #[u213000] 35 (0, 0)) (by (with_reducible repeat (first | refine blk_drewN ?_ _ | refine blk_drew ?_ | refine blk_alloc ?_ _)); exact BK212.out) NB212_0.out (by simp)); have n3_ := Aside0.mk (Kd.R_mono (Kd.R_keep (IsS39.apart (show IsS39 w0 _ g s0_0 t219 from by repeat (first | (with_reducible first | exact HI0.out | apply IsS39.alloc | apply IsS39.drewN | apply IsS39.drew | apply IsS39.set_1 | refine IsS39.far ?_ NB0_211.out _ | refine IsS39.far ?_ NB0_212.out _) | exact HI0.out)) (by (with_reducible repeat (first | apply Kd.R_alloc | apply Kd.R_drewN | apply Kd.R_drew)); exact HO217.out) (by decide)) hk (fun _ h => h.2)) (fun _ h => h.1)); have n4_ := Aside0.mk (KeepBut.trans (by repeat (first | (with_reducible first | exact HK.out | apply KeepBut.set_ | apply keep_drewN | apply keep_drew | apply keep_alloc | refine keep_far ?_ GW211.out _ | refine keep_far ?_ GW212.out _) | exact HK.out)) hk (.inl rfl)); have n5_ := Aside0.mk (hb); have n6_ := Aside0.mk (hi); clear HO_213000; clear BK211; clear BK212; clear HO217; clear HK; clear HB; clear HI0; have HO_213000 := n0_; have BK211 := n1_; have BK212 := n2_; have HO217 := n3_; have HK := n4_; have HB := n5_; have HI0 := n6_; clear n0_ n1_ n2_ n3_ n4_ n5_ n6_; (try clear hb); (try clear hb2); (try clear hk); (try clear hi)))
                have n0_ := Aside0.mk (Kd.R_drew HO_213000.out)
                have n1_ := Aside0.mk (Kd.R_drew HO217.out)
                have n2_ := Aside0.mk (blk_drew BK211.out)
                have n3_ := Aside0.mk (blk_drew BK212.out)
                have n4_ := Aside0.mk (IsS39.drew HI0.out)
                have n5_ := Aside0.mk (keep_drew HK.out)
                have n6_ := Aside0.mk (below_drew1 HB.out)
                clear HO_213000
                clear HO217
                clear BK211
                clear BK212
                clear HI0
                clear HK
                clear HB
                have HO_213000 := n0_
                have HO217 := n1_
                have BK211 := n2_
                have BK212 := n3_
                have HI0 := n4_
                have HK := n5_
                have HB := n6_
                clear n0_ n1_ n2_ n3_ n4_ n5_ n6_
                refine start_ (n := 10) (S := fun w' => w'.cell? ⟨gb212, 0, none⟩ = some (u213000)) (ds := [9]) #[false, false, false, false, false, false, false, false, false, false] (by kernel_rfl) rfl rfl ((blk_cell BK212.out 0).trans rfl) (fun hHeld => ?_); refine with_tabW turncockmake_Desc.tab9 turncockmake_Desc.bits9 (fun HT_ HW_ => ?_)
                generalize w34.drew = w35 at HO_213000 HO217 BK211 BK212 HI0 HK HB hHeld ⊢
                refine pure_ (i := 0) (N := some 26) (v := ?_) (a' := ?_) #[true, false, false, false, false, false, false, false, false, false] rfl rfl (any_of HT_.out (by kernel_rfl)) (fun _ _ _ h => h) (Or.inl ⟨by rfl, ?_⟩) ?_ ?_
                rotate_left
                · intro w'
                  go_simp
                  (first | with_reducible rfl | (rw [if_neg (by first | omega | (simp only [ByteArray.size_append] at *; omega) | (have hl_ : ∀ l_ : List UInt8, (⟨l_.toArray⟩ : ByteArray).size = l_.length := (fun l_ => by show l_.toArray.size = _; simp); simp only [ByteArray.size_append, hl_, List.length_cons, List.length_nil] at *; omega))]))
                rotate_left
                · simp only [Act.put, List.setIfInBounds_toArray, List.set_cons_zero, List.set_cons_succ, i64_w, i32_w]
                  rfl
                refine pure_ (i := 2) (N := some 28) (v := ?_) (a' := ?_) #[true, false, true, false, false, false, false, false, false, false] rfl rfl (any_of HT_.out (by kernel_rfl)) (fun _ _ _ h => h) (Or.inl ⟨by rfl, ?_⟩) ?_ ?_
                rotate_left
                · intro w'
                  go_simp
                  (first | with_reducible rfl | (rw [if_neg (by first | omega | (simp only [ByteArray.size_append] at *; omega) | (have hl_ : ∀ l_ : List UInt8, (⟨l_.toArray⟩ : ByteArray).size = l_.length := (fun l_ => by show l_.toArray.size = _; simp); simp only [ByteArray.size_append, hl_, List.length_cons, List.length_nil] at *; omega))]))
                rotate_left
                · simp only [Act.put, List.setIfInBounds_toArray, List.set_cons_zero, List.set_cons_succ, i64_w, i32_w]
                  rfl
                refine pure_ (i := 4) (N := some 30) (v := ?_) (a' := ?_) #[true, false, true, false, true, false, false, false, false, false] rfl rfl (any_of HT_.out (by kernel_rfl)) (fun _ _ _ h => h) (Or.inl ⟨by rfl, ?_⟩) ?_ ?_
                rotate_left
                · intro w'
                  go_simp
                  (first | with_reducible rfl | (rw [if_neg (by first | omega | (simp only [ByteArray.size_append] at *; omega) | (have hl_ : ∀ l_ : List UInt8, (⟨l_.toArray⟩ : ByteArray).size = l_.length := (fun l_ => by show l_.toArray.size = _; simp); simp only [ByteArray.size_append, hl_, List.length_cons, List.length_nil] at *; omega))]))
                rotate_left
                · simp only [Act.put, List.setIfInBounds_toArray, List.set_cons_zero, List.set_cons_succ, i64_w, i32_w]
                  rfl
                refine take_ (i := 1) (N := some 27) (v := ?_) (a' := ?_) #[true, true, true, false, true, false, false, false, false, false] rfl rfl (take_ofW HT_.out HW_.out (by kernel_rfl)) (fun _ _ _ h => h) (Or.inl ⟨by rfl, ?_⟩) hHeld ?_ ?_
                rotate_left
                · intro w' s0
                  go_simp
                  (first | with_reducible rfl | (rw [if_neg (by first | omega | (simp only [ByteArray.size_append] at *; omega) | (have hl_ : ∀ l_ : List UInt8, (⟨l_.toArray⟩ : ByteArray).size = l_.length := (fun l_ => by show l_.toArray.size = _; simp); simp only [ByteArray.size_append, hl_, List.length_cons, List.length_nil] at *; omega))]))
                rotate_left
                · simp only [Act.put, List.setIfInBounds_toArray, List.set_cons_zero, List.set_cons_succ, i64_w, i32_w]
                  rfl
                refine one_ (i := 3) (N := some 29) #[true, true, true, true, true, false, false, false, false, false] rfl rfl (one_of HT_.out (by kernel_rfl)) (by decide) (fun K hK => ?_)
                refine goes_ Try.func25 (by kernel_rfl) rfl #[.pointer (some ⟨g, 0, none⟩)] (by rfl) rfl rfl (by (try simp only [List.map_toArray, List.map_cons, List.map_nil]); first | done | rfl | (simp only [List.length_drop, List.length_take]; rfl)) ?_
                with_reducible refine (turncockmake_key.calls g s0_0 t222 t233 t234 w0 _ ?side1 ?side2 A29.out).mono ?_
                (case side1 => repeat (first | (with_reducible first | exact HI0.out | apply IsS39.alloc | apply IsS39.drewN | apply IsS39.drew | apply IsS39.set_1 | refine IsS39.far ?_ NB0_211.out _ | refine IsS39.far ?_ NB0_212.out _) | exact HI0.out))
                (case side2 => repeat (first | (with_reducible first | exact HB.out | apply below_alloc | apply pw_below_drewN | apply below_drew1 | refine below_set ?_ (IsS39.ge HI0.out) | refine below_set ?_ GE211.out | refine below_set ?_ GE212.out) | exact HB.out))
                rintro e w36 ⟨rfl, hi, hb, hk⟩
                refine ⟨_, rfl, ?_⟩
                have n0_ := Aside0.mk (Kd.R_mono (Kd.R_keep (IsS39.apart (show IsS39 w0 _ g s0_0 t222 from by repeat (first | (with_reducible first | exact HI0.out | apply IsS39.alloc | apply IsS39.drewN | apply IsS39.drew | apply IsS39.set_1 | refine IsS39.far ?_ NB0_211.out _ | refine IsS39.far ?_ NB0_212.out _) | exact HI0.out)) (by (with_reducible repeat (first | apply Kd.R_alloc | apply Kd.R_drewN | apply Kd.R_drew)); exact HO_213000.out) (by decide)) hk (fun _ h => h.2)) (fun _ h => h.1))
                have n1_ := Aside0.mk (KeepBut.blk hk (g' := gb211) (o := .cells #[.slice none 0 0] 35 (0, 0)) (by (with_reducible repeat (first | refine blk_drewN ?_ _ | refine blk_drew ?_ | refine blk_alloc ?_ _)); exact BK211.out) NB211_0.out (by simp))
                have n2_ := Aside0.mk (KeepBut.blk hk (g' := gb212) (o := .cells #[u213000] 35 (0, 0)) (by (with_reducible repeat (first | refine blk_drewN ?_ _ | refine blk_drew ?_ | refine blk_alloc ?_ _)); exact BK212.out) NB212_0.out (by simp))
                have n3_ := Aside0.mk (Kd.R_mono (Kd.R_keep (IsS39.apart (show IsS39 w0 _ g s0_0 t222 from by repeat (first | (with_reducible first | exact HI0.out | apply IsS39.alloc | apply IsS39.drewN | apply IsS39.drew | apply IsS39.set_1 | refine IsS39.far ?_ NB0_211.out _ | refine IsS39.far ?_ NB0_212.out _) | exact HI0.out)) (by (with_reducible repeat (first | apply Kd.R_alloc | apply Kd.R_drewN | apply Kd.R_drew)); exact HO217.out) (by decide)) hk (fun _ h => h.2)) (fun _ h => h.1))
                have n4_ := Aside0.mk (KeepBut.trans (by repeat (first | (with_reducible first | exact HK.out | apply KeepBut.set_ | apply keep_drewN | apply keep_drew | apply keep_alloc | refine keep_far ?_ GW211.out _ | refine keep_far ?_ GW212.out _) | exact HK.out)) hk (.inl rfl))
                have n5_ := Aside0.mk (hb)
                have n6_ := Aside0.mk (hi)
                clear HO_213000
                clear BK211
                clear BK212
                clear HO217
                clear HK
                clear HB
                clear HI0
                have HO_213000 := n0_
                have BK211 := n1_
                have BK212 := n2_
                have HO217 := n3_
                have HK := n4_
                have HB := n5_
                have HI0 := n6_
                clear n0_ n1_ n2_ n3_ n4_ n5_ n6_
                (try clear hb)
                (try clear hb2)
                (try clear hk)
                (try clear hi)
                refine hK.out _ _ ((blk_cell BK212.out 0).trans rfl) (fun hHeld => ?_)
                clear hK K
                refine norm_ (a' := ?_) ?_ ?_
                rotate_left
                · show Act.put _ (some 29) _ = _
                  simp only [Act.put, List.setIfInBounds_toArray, List.set_cons_zero, List.set_cons_succ, i64_w, i32_w]
                  rfl
                refine pure_ (i := 5) (N := some 31) (v := ?_) (a' := ?_) #[true, true, true, true, true, true, false, false, false, false] rfl rfl (any_of HT_.out (by kernel_rfl)) (fun _ _ _ h => h) (Or.inl ⟨by rfl, ?_⟩) ?_ ?_
                rotate_left
                · intro w'
                  go_simp
                  (first | with_reducible rfl | (rw [if_neg (by first | omega | (simp only [ByteArray.size_append] at *; omega) | (have hl_ : ∀ l_ : List UInt8, (⟨l_.toArray⟩ : ByteArray).size = l_.length := (fun l_ => by show l_.toArray.size = _; simp); simp only [ByteArray.size_append, hl_, List.length_cons, List.length_nil] at *; omega))]))
                rotate_left
                · simp only [Act.put, List.setIfInBounds_toArray, List.set_cons_zero, List.set_cons_succ, i64_w, i32_w]
                  rfl
                refine one_ (i := 6) (N := some 32) #[true, true, true, true, true, true, true, false, false, false] rfl rfl (one_of HT_.out (by kernel_rfl)) (by decide) (fun K hK => ?_)
                refine value_ (w1 := ?_) (v := ?_) (by rfl) rfl ?_ ?_
                rotate_left 2
                · go_simp
                  constructor
                  · rfl
                  · rfl
                refine hK.out _ _ ((blk_cell (blk_alloc BK212.out _) 0).trans rfl) (fun hHeld => ?_)
                clear hK K
                refine norm_ (a' := ?_) ?_ ?_
                rotate_left
                · show Act.put _ (some 32) _ = _
                  simp only [Act.put, List.setIfInBounds_toArray, List.set_cons_zero, List.set_cons_succ, i64_w, i32_w]
                  rfl
                refine one_ (i := 7) (N := some 33) #[true, true, true, true, true, true, true, true, false, false] rfl rfl (one_of HT_.out (by kernel_rfl)) (by decide) (fun K hK => ?_)
                refine Kd.R_append_step k48 w.heap.size (by rfl) (.tmp 27) (.tmp 32) 33 48 (.agg #[(.string ⟨#[]⟩), (.string ⟨#[]⟩)]) 32 rfl Try.underlying33 info48 rfl (by decide) (by omega) u213000 x213000_1 (⟨t233, rdOf ByteArray.empty t215 t218⟩ : S48) [.string t233, .string (rdOf ByteArray.empty t215 t218)] (fun _ => True) (fun _ => False) rfl rfl ?aP (fun _ hk => hk.elim) ?aF ?aO (Below.refl _ _) ?aS ?aL ?_
                (case aP => exact k48_mkM _ _ _ (⟨t233, rdOf ByteArray.empty t215 t218⟩ : S48))
                (case aF => exact (fun _ _ => trivial))
                (case aO => exact (by (with_reducible repeat (first | apply Kd.R_alloc | apply Kd.R_drewN | apply Kd.R_drew)); exact HO_213000.out))
                (case aS => exact (keep_size (w := w) (g := g) (row := none) (by repeat (first | (with_reducible first | exact HK.out | apply KeepBut.set_ | apply keep_drewN | apply keep_drew | apply keep_alloc | refine keep_far ?_ GW211.out _ | refine keep_far ?_ GW212.out _) | exact HK.out))))
                (case aL => have := LMc30.out; omega)
                intro v236 w37 ho hb hg hat
                rw [← Ny235.out] at ho
                have n0_ := Aside0.mk (blk_grown (g := gb211) (o := .cells #[.slice none 0 0] 35 (0, 0)) (by (with_reducible repeat (first | refine blk_drewN ?_ _ | refine blk_drew ?_ | refine blk_alloc ?_ _)); exact BK211.out) hg (Kd.R_ne HO_213000.out BK211.out (by decide)))
                have n1_ := Aside0.mk (blk_grown (g := gb212) (o := .cells #[u213000] 35 (0, 0)) (by (with_reducible repeat (first | refine blk_drewN ?_ _ | refine blk_drew ?_ | refine blk_alloc ?_ _)); exact BK212.out) hg (Kd.R_ne HO_213000.out BK212.out (by decide)))
                have n2_ := Aside0.mk (IsS39.grown (by repeat (first | (with_reducible first | exact HI0.out | apply IsS39.alloc | apply IsS39.drewN | apply IsS39.drew | apply IsS39.set_1 | refine IsS39.far ?_ NB0_211.out _ | refine IsS39.far ?_ NB0_212.out _) | exact HI0.out)) hg (IsS39.own_ne HI0.out HO_213000.out (by decide)))
                have n3_ := Aside0.mk (Kd.R_over' (by (with_reducible repeat (first | apply Kd.R_alloc | apply Kd.R_drewN | apply Kd.R_drew)); exact HO217.out) (Kd.R_typed (by (with_reducible repeat (first | apply Kd.R_alloc | apply Kd.R_drewN | apply Kd.R_drew)); exact HO_213000.out)) (by decide) hg)
                have n4_ := Aside0.mk (below_weaken (by repeat (first | (with_reducible first | exact HB.out | apply below_alloc | apply pw_below_drewN | apply below_drew1 | refine below_set ?_ (IsS39.ge HI0.out) | refine below_set ?_ GE211.out | refine below_set ?_ GE212.out) | exact HB.out)) HL.out hb)
                have n5_ := Aside0.mk (KeepBut.trans (by repeat (first | (with_reducible first | exact HK.out | apply KeepBut.set_ | apply keep_drewN | apply keep_drew | apply keep_alloc | refine keep_far ?_ GW211.out _ | refine keep_far ?_ GW212.out _) | exact HK.out)) (KeepBut.of_grown hg g) (Kd.R_base2 HO_213000.out))
                have n6_ := Aside0.mk (ho)
                clear BK211
                clear BK212
                clear HI0
                clear HO217
                clear HB
                clear HK
                clear HO_213000
                have BK211 := n0_
                have BK212 := n1_
                have HI0 := n2_
                have HO217 := n3_
                have HB := n4_
                have HK := n5_
                have HO237 := n6_
                clear n0_ n1_ n2_ n3_ n4_ n5_ n6_
                clear ho hb hg hat
                obtain ⟨Ao38, co38, eo38⟩ := Kd.R_slice HO237.out
                (first | subst eo38 | (injection eo38 with f1_ f2_ f3_; have f4_ := f1_.symm; have f5_ := f3_.symm; clear f1_ f2_ f3_; subst f4_; subst f5_))
                refine hK.out _ _ ((blk_cell BK212.out 0).trans rfl) (fun hHeld => ?_)
                clear hK K
                refine norm_ (a' := ?_) ?_ ?_
                rotate_left
                · show Act.put _ (some 33) _ = _
                  simp only [Act.put, List.setIfInBounds_toArray, List.set_cons_zero, List.set_cons_succ, i64_w, i32_w]
                  rfl
                refine pure_ (i := 8) (N := some 34) (v := ?_) (a' := ?_) #[true, true, true, true, true, true, true, true, true, false] rfl rfl (any_of HT_.out (by kernel_rfl)) (fun _ _ _ h => h) (Or.inl ⟨by rfl, ?_⟩) ?_ ?_
                rotate_left
                · intro w'
                  go_simp
                  (first | with_reducible rfl | (rw [if_neg (by first | omega | (simp only [ByteArray.size_append] at *; omega) | (have hl_ : ∀ l_ : List UInt8, (⟨l_.toArray⟩ : ByteArray).size = l_.length := (fun l_ => by show l_.toArray.size = _; simp); simp only [ByteArray.size_append, hl_, List.length_cons, List.length_nil] at *; omega))]))
                rotate_left
                · simp only [Act.put, List.setIfInBounds_toArray, List.set_cons_zero, List.set_cons_succ, i64_w, i32_w]
                  rfl
                refine last_ (i := 9) (N := none) #[true, true, true, true, true, true, true, true, true, true] rfl rfl (one_of HT_.out (by kernel_rfl)) (by decide) (fun K hK => ?_)
                have hs39 : w37.cell? ⟨gb212, 0, none⟩ = some (u213000) := (blk_cell BK212.out 0).trans rfl
                have hfs39 := blk_frozen BK212.out 0
                have hns39_0 := NB211_212.out
                have hms39_0 := NB212_211.out
                refine skip_ (w1 := ?_) (by rfl) rfl ?_ ?_
                rotate_left
                · go_simp
                  rfl
                refine hK.out _ _ ?_
                clear hK K
                refine done_ (done_of HT_.out (by kernel_rfl)) ?_
                try go_wp2
                go_roundg k1
                case measure => have := HK1.out; omega
                case rel => exact ⟨(wrap64 (x5_1 + 1)), (t234), (y235), (.slice Ao38 y235.length co38), (by first | rfl | (simp; done) | (simp [*]; done)), H', ⟨by have := HK1.out; omega⟩, ⟨by (with_reducible repeat (first | apply Kd.R_alloc | apply Kd.R_drewN | apply Kd.R_drew)); exact Kd.R_mono (Kd.R_far (p := ⟨gb212, 0, none⟩) (Kd.R_types HO237.out BK212.out (by decide)) (fun _ hk => hk.2) (.slice Ao38 y235.length co38)) (fun _ hk => trivial)⟩, ⟨by (with_reducible repeat (first | refine blk_drewN ?_ _ | refine blk_drew ?_ | refine blk_alloc ?_ _)); refine blk_far ?_ NB211_212.out _; (with_reducible repeat (first | refine blk_drewN ?_ _ | refine blk_drew ?_ | refine blk_alloc ?_ _)); exact BK211.out⟩, ⟨by (with_reducible repeat (first | refine blk_drewN ?_ _ | refine blk_drew ?_ | refine blk_alloc ?_ _)); refine blk_put (cs := #[u213000]) ?_ 0 _ rfl; (with_reducible repeat (first | refine blk_drewN ?_ _ | refine blk_drew ?_ | refine blk_alloc ?_ _)); exact BK212.out⟩, ⟨by repeat (first | (with_reducible first | exact HI0.out | apply IsS39.alloc | apply IsS39.drewN | apply IsS39.drew | apply IsS39.set_1 | refine IsS39.far ?_ NB0_211.out _ | refine IsS39.far ?_ NB0_212.out _) | exact HI0.out)⟩, ⟨by repeat (first | (with_reducible first | exact HK.out | apply KeepBut.set_ | apply keep_drewN | apply keep_drew | apply keep_alloc | refine keep_far ?_ GW211.out _ | refine keep_far ?_ GW212.out _) | exact HK.out)⟩, ⟨by repeat (first | (with_reducible first | exact HB.out | apply below_alloc | apply pw_below_drewN | apply below_drew1 | refine below_set ?_ (IsS39.ge HI0.out) | refine below_set ?_ GE211.out | refine below_set ?_ GE212.out) | exact HB.out)⟩⟩
              · rw [if_neg c30] at H
                exact absurd H (by simp)
          · rw [if_neg c10] at H
            exact absurd H (by simp)
        · rw [if_neg c9] at H
          exact absurd H (by simp)
      · rw [if_neg c6] at H
        have c6b0 : decide (x5_1 < (wrap64 (1 + t213))) = false := decide_eq_false c6
        clear c6
        simp only [Option.some.injEq, Prod.mk.injEq] at H
        obtain ⟨rfl, rfl⟩ := H
        have hnb40 := NB212_211.out
        have hnc40 := NB211_212.out
        have hnb41 := NB212_0.out
        have hnc41 := NB0_212.out
        have hcz42_0 : wr.cell? ⟨gb212, 0, none⟩ = some (u213000) := (blk_cell BK212.out 0).trans rfl
        have hfz42_0 := blk_frozen BK212.out 0
        obtain ⟨Ao43, co43, eo43⟩ := Kd.R_slice HO_213000.out
        subst eo43
        have hnb44 := NB211_0.out
        have hnc44 := NB0_211.out
        have hcz45_0 : wr.cell? ⟨gb211, 0, none⟩ = some (.slice none 0 0) := (blk_cell BK211.out 0).trans rfl
        have hfz45_0 := blk_frozen BK211.out 0
        go_wp2
        refine bodyPost_ret (results_cell_row rfl _ _ gb211 35 #[.slice Ao43 x213000_1.length co43] (0, 0) _ rfl (by (with_reducible repeat (first | refine blk_drewN ?_ _ | refine blk_drew ?_ | refine blk_alloc ?_ _)); refine blk_put (cs := #[.slice none 0 0]) ?_ 0 _ rfl; (with_reducible repeat (first | refine blk_drewN ?_ _ | refine blk_drew ?_ | refine blk_alloc ?_ _)); exact BK211.out) Try.underlying35 rfl (by kernel_rfl)) rfl ?_
        exact ⟨_, by first | rfl | (simp [errW_none, errW_some] <;> rfl) | (simp [*, errW_none, errW_some] <;> rfl), by (with_reducible repeat (first | apply Kd.R_alloc | apply Kd.R_drewN | apply Kd.R_drew)); exact Kd.R_mono (Kd.R_far (p := ⟨gb211, 0, none⟩) (Kd.R_types HO_213000.out BK211.out (by decide)) (fun _ hk => hk.2) (.slice Ao43 x213000_1.length co43)) (fun _ hk => trivial), by repeat (first | (with_reducible first | exact HI0.out | apply IsS39.alloc | apply IsS39.drewN | apply IsS39.drew | apply IsS39.set_1 | refine IsS39.far ?_ NB0_211.out _ | refine IsS39.far ?_ NB0_212.out _) | exact HI0.out), by repeat (first | (with_reducible first | exact HB.out | apply below_alloc | apply pw_below_drewN | apply below_drew1 | refine below_set ?_ (IsS39.ge HI0.out) | refine below_set ?_ GE211.out | refine below_set ?_ GE212.out) | exact HB.out), by repeat (first | (with_reducible first | exact HK.out | apply KeepBut.set_ | apply keep_drewN | apply keep_drew | apply keep_alloc | refine keep_far ?_ GW211.out _ | refine keep_far ?_ GW212.out _) | exact HK.out)⟩
def strings_IndexByte.f (a0 : ByteArray) (a1 : Int) : Option (Int) := some (Lib.indexByte a0.data.toList a1.toNat.toUInt8)
theorem strings_IndexByte.calls (a0 : ByteArray) (a1 : Int) (r : Int) (w : World) (h : strings_IndexByte.f a0 a1 = some r) :
    Calls Try.prog 47 #[.string a0, .int .u8 a1] w fun e w' => e = .returned (.int .i64 r) ∧ Drawn0 w w' := by
  obtain rfl := Option.some.inj h
  exact (Try.strings_IndexByte a0 a1 w).mono (by rintro e w' ⟨rfl, rfl⟩; exact ⟨rfl, Drawn0.refl _⟩)
def desc_itself.self (c : Int) : Bool := decide ((97 ≤ c ∧ c ≤ 122) ∨ (65 ≤ c ∧ c ≤ 90) ∨ (48 ≤ c ∧ c ≤ 57) ∨ 0 ≤ Lib.indexByte [45, 95, 46, 47, 58] c.toNat.toUInt8)
def desc_itself.f (a0 : Int) : Option (Bool) := some (desc_itself.self a0)
set_option maxRecDepth 100000 in
theorem desc_itself.calls (c : Int) (r : Bool) (w : World) (h : desc_itself.f c = some r) :
    Calls Try.prog 37 #[.int .u8 c] w fun e w' => e = .returned (.bool r) ∧ Drawn0 w w' := by
  obtain rfl := Option.some.inj h
  clear h
  by_cases h1 : 97 ≤ c
  · have d1 : decide (97 ≤ c) = true := decide_eq_true h1
    by_cases h2 : c ≤ 122
    · have d2 : decide (c ≤ 122) = true := decide_eq_true h2
      have hs := Aside0.mk (show desc_itself.self c = true from decide_eq_true (.inl ⟨h1, h2⟩))
      clear h1 h2
      go_enter Try.func37, Try.ntmps37
      go_wp2
      go_ret
      exact ⟨by rw [hs.out]; first | rfl | simp, Drawn0.refl _⟩
    · have d2 : decide (c ≤ 122) = false := decide_eq_false h2
      have d3 : decide (65 ≤ c) = true := decide_eq_true (by omega)
      have d4 : decide (c ≤ 90) = false := decide_eq_false (by omega)
      have d5 : decide (48 ≤ c) = true := decide_eq_true (by omega)
      have d6 : decide (c ≤ 57) = false := decide_eq_false (by omega)
      have hs := Aside0.mk (show desc_itself.self c = decide (0 ≤ Lib.indexByte [45, 95, 46, 47, 58] c.toNat.toUInt8) from by unfold desc_itself.self; rw [decide_eq_decide]; omega)
      clear h1 h2
      go_enter Try.func37, Try.ntmps37
      go_wp2_with fail
      (with_reducible refine (strings_IndexByte.calls _ c _ _ rfl).mono ?_); rintro e w' ⟨rfl, ⟨nd, rfl⟩⟩
      go_wp2
      go_ret
      exact ⟨by rw [hs.out]; rfl, by repeat (first | exact Drawn0.refl _ | apply Drawn0.step)⟩
  · have d1 : decide (97 ≤ c) = false := decide_eq_false h1
    by_cases h3 : 65 ≤ c
    · have d3 : decide (65 ≤ c) = true := decide_eq_true h3
      by_cases h4 : c ≤ 90
      · have d4 : decide (c ≤ 90) = true := decide_eq_true h4
        have hs := Aside0.mk (show desc_itself.self c = true from decide_eq_true (.inr (.inl ⟨h3, h4⟩)))
        clear h1 h3 h4
        go_enter Try.func37, Try.ntmps37
        go_wp2
        go_ret
        exact ⟨by rw [hs.out]; first | rfl | simp, Drawn0.refl _⟩
      · have d4 : decide (c ≤ 90) = false := decide_eq_false h4
        have d5 : decide (48 ≤ c) = true := decide_eq_true (by omega)
        have d6 : decide (c ≤ 57) = false := decide_eq_false (by omega)
        have hs := Aside0.mk (show desc_itself.self c = decide (0 ≤ Lib.indexByte [45, 95, 46, 47, 58] c.toNat.toUInt8) from by unfold desc_itself.self; rw [decide_eq_decide]; omega)
        clear h1 h3 h4
        go_enter Try.func37, Try.ntmps37
        go_wp2_with fail
        (with_reducible refine (strings_IndexByte.calls _ c _ _ rfl).mono ?_); rintro e w' ⟨rfl, ⟨nd, rfl⟩⟩
        go_wp2
        go_ret
        exact ⟨by rw [hs.out]; rfl, by repeat (first | exact Drawn0.refl _ | apply Drawn0.step)⟩
    · have d3 : decide (65 ≤ c) = false := decide_eq_false h3
      by_cases h5 : 48 ≤ c
      · have d5 : decide (48 ≤ c) = true := decide_eq_true h5
        by_cases h6 : c ≤ 57
        · have d6 : decide (c ≤ 57) = true := decide_eq_true h6
          have hs := Aside0.mk (show desc_itself.self c = true from decide_eq_true (.inr (.inr (.inl ⟨h5, h6⟩))))
          clear h1 h3 h5 h6
          go_enter Try.func37, Try.ntmps37
          go_wp2
          go_ret
          exact ⟨by rw [hs.out]; first | rfl | simp, Drawn0.refl _⟩
        · have d6 : decide (c ≤ 57) = false := decide_eq_false h6
          have hs := Aside0.mk (show desc_itself.self c = decide (0 ≤ Lib.indexByte [45, 95, 46, 47, 58] c.toNat.toUInt8) from by unfold desc_itself.self; rw [decide_eq_decide]; omega)
          clear h1 h3 h5 h6
          go_enter Try.func37, Try.ntmps37
          go_wp2_with fail
          (with_reducible refine (strings_IndexByte.calls _ c _ _ rfl).mono ?_); rintro e w' ⟨rfl, ⟨nd, rfl⟩⟩
          go_wp2
          go_ret
          exact ⟨by rw [hs.out]; rfl, by repeat (first | exact Drawn0.refl _ | apply Drawn0.step)⟩
      · have d5 : decide (48 ≤ c) = false := decide_eq_false h5
        have hs := Aside0.mk (show desc_itself.self c = decide (0 ≤ Lib.indexByte [45, 95, 46, 47, 58] c.toNat.toUInt8) from by unfold desc_itself.self; rw [decide_eq_decide]; omega)
        clear h1 h3 h5
        go_enter Try.func37, Try.ntmps37
        go_wp2_with fail
        (with_reducible refine (strings_IndexByte.calls _ c _ _ rfl).mono ?_); rintro e w' ⟨rfl, ⟨nd, rfl⟩⟩
        go_wp2
        go_ret
        exact ⟨by rw [hs.out]; rfl, by repeat (first | exact Drawn0.refl _ | apply Drawn0.step)⟩
def desc_Escape.HEX : List UInt8 := [48, 49, 50, 51, 52, 53, 54, 55, 56, 57, 65, 66, 67, 68, 69, 70]
def desc_Escape.one (c : UInt8) : List UInt8 := if desc_itself.self (c.toNat : Int) = true then [c] else [37, desc_Escape.HEX.getD (c.toNat / 16) 0, desc_Escape.HEX.getD (c.toNat % 16) 0]
theorem desc_Escape.hexcut : ∀ n : Fin 16, (⟨#[48, 49, 50, 51, 52, 53, 54, 55, 56, 57, 65, 66, 67, 68, 69, 70]⟩ : ByteArray).extract n.val (n.val + 1) = ⟨#[desc_Escape.HEX.getD n.val 0]⟩ := by decide +kernel
def desc_Escape.all (l : List UInt8) : List UInt8 := l.flatMap desc_Escape.one
theorem desc_Escape.one_len (c : UInt8) : (desc_Escape.one c).length ≤ 3 := by unfold desc_Escape.one; split <;> simp
theorem desc_Escape.all_snoc (l : List UInt8) (c : UInt8) : desc_Escape.all (l ++ [c]) = desc_Escape.all l ++ desc_Escape.one c := by unfold desc_Escape.all; simp
theorem desc_Escape.all_len (l : List UInt8) : (desc_Escape.all l).length ≤ 3 * l.length := by
  induction l with
  | nil => simp [desc_Escape.all]
  | cons a l ih =>
    have := desc_Escape.one_len a
    have e : desc_Escape.all (a :: l) = desc_Escape.one a ++ desc_Escape.all l := by unfold desc_Escape.all; simp
    rw [e, List.length_append, List.length_cons]; omega
theorem desc_Escape.take_snoc (s : ByteArray) (k : Nat) (h : k < s.size) : s.data.toList.take (k + 1) = s.data.toList.take k ++ [s[k]] := by
  rw [List.take_succ_eq_append_getElem (by simpa using h)]; rfl
theorem desc_Escape.cells_one (l : List UInt8) (c : UInt8) : Lib.byteCells l ++ [.int .u8 (c.toNat : Int)] = Lib.byteCells (l ++ [c]) := by unfold Lib.byteCells; simp
theorem desc_Escape.cells_str (l : List UInt8) (s : ByteArray) : Lib.byteCells l ++ Lib.strCells s = Lib.byteCells (l ++ s.data.toList) := by unfold Lib.byteCells Lib.strCells; simp
def desc_Escape.f (a0 : ByteArray) : Option (ByteArray) := if a0.size ≤ 1099511627776 then some ⟨(desc_Escape.all a0.data.toList).toArray⟩ else none
set_option maxHeartbeats 1000000 in
set_option maxRecDepth 100000 in
theorem desc_Escape.calls (s : ByteArray) (r : ByteArray) (w : World) (h : desc_Escape.f s = some r) :
    Calls Try.prog 27 #[.string s] w fun e w' => e = .returned (.string r) ∧ Below w.heap.size w w' := by
  unfold desc_Escape.f at h
  split at h
  · rename_i hs
    obtain rfl := Option.some.inj h
    clear h
    have hb0 := Aside0.mk (Lib.fresh_isBuilder 85 5 w)
    go_enter Try.func27, Try.ntmps27
    go_wp2
    go_loopw [8] (fun v8 wr => ∃ k : Nat, v8 = .int .i64 k ∧ k ≤ s.size ∧ Aside0 (Lib.IsBuilder 85 5 w.heap.size w.heap.size (Lib.byteCells (desc_Escape.all (s.data.toList.take k))) wr) ∧ Aside0 (Below w.heap.size w wr)) (fun v8 _ => s.size - (intOf v8).toNat)
    case atStart => exact ⟨0, rfl, Nat.zero_le _, hb0, ⟨(Below.refl _ _).alloc (Nat.le_refl _) _⟩⟩
    case round =>
      obtain ⟨k, rfl, hk, HB, HW⟩ := hrel
      clear hb0
      by_cases hlt : k < s.size
      · have HT := Aside0.mk (desc_Escape.take_snoc s k hlt)
        have hl := desc_Escape.all_len (s.data.toList.take k)
        have hl2 : (s.data.toList.take k).length ≤ k := List.length_take_le _ _
        have HL := Aside0.mk (show (Lib.byteCells (desc_Escape.all (s.data.toList.take k))).length ≤ 3298534883328 from by unfold Lib.byteCells; rw [List.length_map]; omega)
        clear hl hl2
        cases hc : desc_itself.self (s[k].toNat : Int) with
        | true =>
          have HC := Aside0.mk hc
          clear hc
          go_wp2_with fail
          (with_reducible refine (desc_itself.calls _ true _ (by unfold desc_itself.f; rw [HC.out])).mono ?_); rintro e w' ⟨rfl, ⟨nd, rfl⟩⟩
          go_wp2_with fail
          refine (Try.bld_WriteByte w.heap.size w.heap.size _ _ _ (show Lib.IsBuilder _ _ _ _ _ (wr.drewN nd) from HB.out) (by have := HL.out; omega) (show w.heap.size ≤ (wr.drewN nd).heap.size from HW.out.size)).mono ?_; rintro e w2 ⟨rfl, hb2, hw2⟩
          have HB2 := Aside0.mk hb2
          have HW2 := Aside0.mk (show Below w.heap.size w w2 from HW.out.trans ⟨hw2.os, hw2.tape, hw2.output, hw2.size, fun i hi => hw2.block i hi⟩)
          clear hb2 hw2
          go_wp2
          go_roundw
          case rel =>
            refine ⟨k + 1, by go_num, by omega, ⟨?_⟩, HW2⟩
            rw [HT.out, desc_Escape.all_snoc, show desc_Escape.one s[k] = [s[k]] from by unfold desc_Escape.one; rw [if_pos HC.out], ← desc_Escape.cells_one]
            exact .inr HB2.out
          case measure => simp [intOf]; omega
        | false =>
          have HC := Aside0.mk hc
          clear hc
          go_wp2_with fail
          (with_reducible refine (desc_itself.calls _ false _ (by unfold desc_itself.f; rw [HC.out])).mono ?_); rintro e w' ⟨rfl, ⟨nd, rfl⟩⟩
          have hc1 : s[k].toNat < 256 := s[k].toNat_lt
          have f0 : (0 : Int) ≤ (s[k].toNat : Int) / 16 := by omega
          have f1 : (s[k].toNat : Int) / 16 + 1 ≤ 16 := by omega
          have f1a : (s[k].toNat : Int) / 16 ≤ 16 := by omega
          have f1b : (s[k].toNat : Int) / 16 ≤ (s[k].toNat : Int) / 16 + 1 := by omega
          have f2 : (0 : Int) ≤ (s[k].toNat : Int) % 16 := by omega
          have f3 : (s[k].toNat : Int) % 16 + 1 ≤ 16 := by omega
          have f3b : (s[k].toNat : Int) % 16 ≤ (s[k].toNat : Int) % 16 + 1 := by omega
          have f4 : (0 : Int) ≤ (s[k].toNat : Int) / 16 + 1 := by omega
          have f5 : (0 : Int) ≤ (s[k].toNat : Int) % 16 + 1 := by omega
          have f6 : (s[k].toNat : Int) % 16 ≤ 16 := by omega
          have w1 : IntKind.u8.wrap ((s[k].toNat : Int) / 16 + 1) = (s[k].toNat : Int) / 16 + 1 := by rw [IntKind.wrap_u8]; omega
          have w2 : IntKind.u8.wrap ((s[k].toNat : Int) % 16 + 1) = (s[k].toNat : Int) % 16 + 1 := by rw [IntKind.wrap_u8]; omega
          have w3 : ((s[k].toNat : Int) / 16).toNat = s[k].toNat / 16 := by omega
          have w4 : ((s[k].toNat : Int) / 16 + 1).toNat = s[k].toNat / 16 + 1 := by omega
          have w5 : ((s[k].toNat : Int) % 16).toNat = s[k].toNat % 16 := by omega
          have w6 : ((s[k].toNat : Int) % 16 + 1).toNat = s[k].toNat % 16 + 1 := by omega
          have w7 : Go.bits .and .u8 (s[k].toNat : Int) 15 = (s[k].toNat : Int) % 16 := u8_and15 _ (by omega) (by omega)
          have x1 := desc_Escape.hexcut ⟨s[k].toNat / 16, by omega⟩
          have x2 := desc_Escape.hexcut ⟨s[k].toNat % 16, by omega⟩
          simp only [] at x1 x2
          have HX : Aside0 (desc_Escape.one s[k] = [37, desc_Escape.HEX.getD (s[k].toNat / 16) 0, desc_Escape.HEX.getD (s[k].toNat % 16) 0]) := ⟨by unfold desc_Escape.one; rw [if_neg (by rw [HC.out]; simp)]⟩
          generalize desc_Escape.HEX.getD (s[k].toNat / 16) 0 = b1 at x1 HX
          generalize desc_Escape.HEX.getD (s[k].toNat % 16) 0 = b2 at x2 HX
          have z1 : (⟨#[37]⟩ : ByteArray).size = 1 := rfl
          have z2 : (⟨#[b1]⟩ : ByteArray).size = 1 := rfl
          have z3 : (⟨#[b2]⟩ : ByteArray).size = 1 := rfl
          have z4 : ((⟨#[37]⟩ : ByteArray) ++ ⟨#[b1]⟩) = ⟨#[37, b1]⟩ := rfl
          have z5 : (⟨#[37, b1]⟩ : ByteArray).size = 2 := rfl
          have z5' : (⟨#[37, b1, b2]⟩ : ByteArray).size = 3 := rfl
          have z6 : ((⟨#[37, b1]⟩ : ByteArray) ++ ⟨#[b2]⟩) = ⟨#[37, b1, b2]⟩ := rfl
          go_wp2
          go_still_tail 14, (by kernel_rfl)
          change wpList _ _ _ _ _ ((wr.drewN nd).drew)
          have HB3 := Aside0.mk (show Lib.IsBuilder 85 5 w.heap.size w.heap.size (Lib.byteCells (desc_Escape.all (s.data.toList.take k))) ((wr.drewN nd).drew) from HB.out)
          have HW3 := Aside0.mk (show Below w.heap.size w ((wr.drewN nd).drew) from ⟨HW.out.os, HW.out.tape, HW.out.output, HW.out.size, HW.out.block⟩)
          generalize (wr.drewN nd).drew = wz at HB3 HW3
          clear f0 f1 f1a f1b f2 f3 f3b f4 f5 f6 w1 w2 w3 w4 w5 w6 w7 x1 x2 z1 z2 z3 z4 z6 HB HW
          go_wp2_with fail
          refine (Try.bld_WriteString w.heap.size w.heap.size _ _ _ HB3.out (by have := HL.out; rw [z5']; omega) HW3.out.size).mono ?_; rintro e w2 ⟨rfl, hb2, hw2⟩
          have HB2 := Aside0.mk hb2
          have HW2 := Aside0.mk (show Below w.heap.size w w2 from HW3.out.trans ⟨hw2.os, hw2.tape, hw2.output, hw2.size, fun i hi => hw2.block i hi⟩)
          clear hb2 hw2
          go_wp2
          go_roundw
          case rel =>
            refine ⟨k + 1, by go_num, by omega, ⟨?_⟩, HW2⟩
            rw [HT.out, desc_Escape.all_snoc, HX.out, show ([37, b1, b2] : List UInt8) = (⟨#[37, b1, b2]⟩ : ByteArray).data.toList from rfl, ← desc_Escape.cells_str]
            exact .inr HB2.out
          case measure => simp [intOf]; omega
      · have e : s.data.toList.take k = s.data.toList := List.take_of_length_le (by simp; omega)
        rw [e] at HB
        clear e
        go_wp2_with fail
        refine (Try.bld_String w.heap.size w.heap.size _ _ HB.out HW.out.size).mono ?_; rintro e w2 ⟨rfl, hw2⟩
        have HW2 := Aside0.mk (show Below w.heap.size w w2 from HW.out.trans ⟨hw2.os, hw2.tape, hw2.output, hw2.size, fun i hi => hw2.block i hi⟩)
        clear hw2
        go_wp2
        go_ret
        exact ⟨rfl, HW2.out⟩
  · cases h
end Go.Proofs.Ytipbigdpannlcaa.PTrieFits
