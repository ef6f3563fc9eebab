-- WRITTEN BY THIS SESSION'S mprint.py upon the print: some functions are proved by hand
import Derived.Test.YtpemmaffbcbcjaaDoorPKeyParsesx0
import Derived.Test.YtpemmaffbcbcjaaDoorPKeyParsesx2
import Derived.Test.YtpemmaffbcbcjaaDoorPKeyParsesx4
import Derived.Test.YtpemmaffbcbcjaaDoorPKeyParsesx5
namespace Go.Proofs.YtpemmaffbcbcjaaDoor.PKeyParses
open Go.RowKit Go.Proofs.YtpemmaffbcbcjaaDoorW.PrintWords Go.Proofs.YtpemmaffbcbcjaaDoorW.PrintLast Go.Proofs.YtpemmaffbcbcjaaDoorW.PrintMore
attribute [local go_sem] max2_int min2_int max_two min_two max_three min_three max_four min_four   -- for this text's walks alone
set_option linter.unusedVariables false
set_option linter.unusedSimpArgs false

/-! ### turncocklaw25_awake: function 28 -/
def turncocklaw25_awake.g (k : Nat)  : Option (Bool) := (some (([(⟨(⟨#[117, 115, 101, 114]⟩ : ByteArray), (⟨#[97, 108]⟩ : ByteArray)⟩ : S47)] : List (S47)) : List (S47))).bind fun y206 => ((key_Make.f k (⟨#[115, 104, 111, 112, 44, 117, 115, 101, 114]⟩ : ByteArray) y206 2 125).bind fun bt210 => ((key_Parse.f k bt210.1).bind fun bt213 => ((key_Make.f k (⟨#[97, 124, 98]⟩ : ByteArray) y206 2 0).bind fun bt221 => ((key_Parse.f k (⟨#[97, 124, 117, 115, 101, 114, 61, 97, 108, 124, 119, 101, 101, 107, 124, 50]⟩ : ByteArray)).bind fun bt224 => (if bt210.1.toList = ([115, 104, 111, 112, 44, 117, 115, 101, 114, 124, 117, 115, 101, 114, 61, 97, 108, 124, 109, 105, 110, 117, 116, 101, 124, 50] : List UInt8) then (if bt210.2.1 = 180 then (if bt210.2.2 = true then (if bt213.1.toList = ([115, 104, 111, 112, 44, 117, 115, 101, 114] : List UInt8) then ((turncockref1_SameDesc.f k bt213.2.1 y206).bind fun t232 => (if t232 = true then (if bt213.2.2.1 = 2 then (if bt213.2.2.2.1 = 2 then (if bt213.2.2.2.2 = true then (if bt221.2.2 = true then (some false) else (some (!bt224.2.2.2.2))) else (some false)) else (some false)) else (some false)) else (some false))) else (some false)) else (some false)) else (some false)) else (some false))))))
theorem turncocklaw25_awake.gmono : ∀ k, LeO (turncocklaw25_awake.g k ) (turncocklaw25_awake.g (k + 1) ) := by
  intro  k
  unfold turncocklaw25_awake.g
  repeat' first
      | (with_reducible exact key_Make.mono _ _ _ _ _)
      | (with_reducible exact key_Parse.mono _ _)
      | (with_reducible exact turncockref1_SameDesc.mono _ _ _)
      | (with_reducible exact LeO.refl _)
      | (with_reducible exact LeO.none _)
      | (with_reducible refine LeO.ite ?_ ?_)
      | (with_reducible refine LeO.bind ?_ (fun _ => ?_))
      | exact key_Make.mono _ _ _ _ _
      | exact key_Parse.mono _ _
      | exact turncockref1_SameDesc.mono _ _ _
      | exact LeO.none _
      | refine LeO.ite ?_ ?_
      | refine LeO.bind ?_ (fun _ => ?_)
set_option maxHeartbeats 8000000 in
set_option maxRecDepth 100000 in
theorem turncocklaw25_awake.gcalls (k : Nat)  (r : Bool) (w : World) (h : turncocklaw25_awake.g k  = some r) (hr_ : r = true) :
    Calls Tryd.prog 28 #[] w fun e w' => e = .returned (.bool r) ∧ Below w.heap.size w w' := by
  have hu47 := Tryd.underlying47
  have hu24 := Tryd.underlying24
  have HB := Aside0.mk (Below.refl w.heap.size w)
  have H : ((some (([(⟨(⟨#[117, 115, 101, 114]⟩ : ByteArray), (⟨#[97, 108]⟩ : ByteArray)⟩ : S47)] : List (S47)) : List (S47))).bind fun y206 => ((key_Make.f k (⟨#[115, 104, 111, 112, 44, 117, 115, 101, 114]⟩ : ByteArray) y206 2 125).bind fun bt210 => ((key_Parse.f k bt210.1).bind fun bt213 => ((key_Make.f k (⟨#[97, 124, 98]⟩ : ByteArray) y206 2 0).bind fun bt221 => ((key_Parse.f k (⟨#[97, 124, 117, 115, 101, 114, 61, 97, 108, 124, 119, 101, 101, 107, 124, 50]⟩ : ByteArray)).bind fun bt224 => (if bt210.1.toList = ([115, 104, 111, 112, 44, 117, 115, 101, 114, 124, 117, 115, 101, 114, 61, 97, 108, 124, 109, 105, 110, 117, 116, 101, 124, 50] : List UInt8) then (if bt210.2.1 = 180 then (if bt210.2.2 = true then (if bt213.1.toList = ([115, 104, 111, 112, 44, 117, 115, 101, 114] : List UInt8) then ((turncockref1_SameDesc.f k bt213.2.1 y206).bind fun t232 => (if t232 = true then (if bt213.2.2.1 = 2 then (if bt213.2.2.2.1 = 2 then (if bt213.2.2.2.2 = true then (if bt221.2.2 = true then (some false) else (some (!bt224.2.2.2.2))) else (some false)) else (some false)) else (some false)) else (some false))) else (some false)) else (some false)) else (some false)) else (some false))))))) = some r := h
  clear h
  obtain ⟨y206, hy206⟩ : ∃ y_ : List (S47), y_ = (([(⟨(⟨#[117, 115, 101, 114]⟩ : ByteArray), (⟨#[97, 108]⟩ : ByteArray)⟩ : S47)] : List (S47))) := ⟨_, rfl⟩
  replace H : ((key_Make.f k (⟨#[115, 104, 111, 112, 44, 117, 115, 101, 114]⟩ : ByteArray) y206 2 125).bind fun bt210 => ((key_Parse.f k bt210.1).bind fun bt213 => ((key_Make.f k (⟨#[97, 124, 98]⟩ : ByteArray) y206 2 0).bind fun bt221 => ((key_Parse.f k (⟨#[97, 124, 117, 115, 101, 114, 61, 97, 108, 124, 119, 101, 101, 107, 124, 50]⟩ : ByteArray)).bind fun bt224 => (if bt210.1.toList = ([115, 104, 111, 112, 44, 117, 115, 101, 114, 124, 117, 115, 101, 114, 61, 97, 108, 124, 109, 105, 110, 117, 116, 101, 124, 50] : List UInt8) then (if bt210.2.1 = 180 then (if bt210.2.2 = true then (if bt213.1.toList = ([115, 104, 111, 112, 44, 117, 115, 101, 114] : List UInt8) then ((turncockref1_SameDesc.f k bt213.2.1 y206).bind fun t232 => (if t232 = true then (if bt213.2.2.1 = 2 then (if bt213.2.2.2.1 = 2 then (if bt213.2.2.2.2 = true then (if bt221.2.2 = true then (some false) else (some (!bt224.2.2.2.2))) else (some false)) else (some false)) else (some false)) else (some false))) else (some false)) else (some false)) else (some false)) else (some false)))))) = some r := by first | (rw [hy206]; with_reducible exact H) | (have H2_ := (Option.bind_some _ _).symm.trans H; rw [hy206]; with_reducible exact H2_) | (have H2_ := (Option.bind_some _ _).symm.trans H; with_reducible exact H2_) | with_reducible exact H | (rw [hy206]; exact H) | exact H
  have Ny206 := Aside0.mk hy206
  clear hy206
  replace H := Option.bind_eq_some_iff.mp H
  obtain ⟨⟨t210, t211, t212⟩, A10, H⟩ := H
  replace H : ((key_Parse.f k t210).bind fun bt213 => ((key_Make.f k (⟨#[97, 124, 98]⟩ : ByteArray) y206 2 0).bind fun bt221 => ((key_Parse.f k (⟨#[97, 124, 117, 115, 101, 114, 61, 97, 108, 124, 119, 101, 101, 107, 124, 50]⟩ : ByteArray)).bind fun bt224 => (if t210.toList = ([115, 104, 111, 112, 44, 117, 115, 101, 114, 124, 117, 115, 101, 114, 61, 97, 108, 124, 109, 105, 110, 117, 116, 101, 124, 50] : List UInt8) then (if t211 = 180 then (if t212 = true then (if bt213.1.toList = ([115, 104, 111, 112, 44, 117, 115, 101, 114] : List UInt8) then ((turncockref1_SameDesc.f k bt213.2.1 y206).bind fun t232 => (if t232 = true then (if bt213.2.2.1 = 2 then (if bt213.2.2.2.1 = 2 then (if bt213.2.2.2.2 = true then (if bt221.2.2 = true then (some false) else (some (!bt224.2.2.2.2))) else (some false)) else (some false)) else (some false)) else (some false))) else (some false)) else (some false)) else (some false)) else (some false))))) = some r := H
  have A1 := Aside0.mk A10
  clear A10
  replace H := Option.bind_eq_some_iff.mp H
  obtain ⟨⟨t213, t214, t217, t218, t219⟩, A20, H⟩ := H
  replace H : ((key_Make.f k (⟨#[97, 124, 98]⟩ : ByteArray) y206 2 0).bind fun bt221 => ((key_Parse.f k (⟨#[97, 124, 117, 115, 101, 114, 61, 97, 108, 124, 119, 101, 101, 107, 124, 50]⟩ : ByteArray)).bind fun bt224 => (if t210.toList = ([115, 104, 111, 112, 44, 117, 115, 101, 114, 124, 117, 115, 101, 114, 61, 97, 108, 124, 109, 105, 110, 117, 116, 101, 124, 50] : List UInt8) then (if t211 = 180 then (if t212 = true then (if t213.toList = ([115, 104, 111, 112, 44, 117, 115, 101, 114] : List UInt8) then ((turncockref1_SameDesc.f k t214 y206).bind fun t232 => (if t232 = true then (if t217 = 2 then (if t218 = 2 then (if t219 = true then (if bt221.2.2 = true then (some false) else (some (!bt224.2.2.2.2))) else (some false)) else (some false)) else (some false)) else (some false))) else (some false)) else (some false)) else (some false)) else (some false)))) = some r := H
  have A2 := Aside0.mk A20
  clear A20
  replace H := Option.bind_eq_some_iff.mp H
  obtain ⟨⟨t221, t222, t223⟩, A30, H⟩ := H
  replace H : ((key_Parse.f k (⟨#[97, 124, 117, 115, 101, 114, 61, 97, 108, 124, 119, 101, 101, 107, 124, 50]⟩ : ByteArray)).bind fun bt224 => (if t210.toList = ([115, 104, 111, 112, 44, 117, 115, 101, 114, 124, 117, 115, 101, 114, 61, 97, 108, 124, 109, 105, 110, 117, 116, 101, 124, 50] : List UInt8) then (if t211 = 180 then (if t212 = true then (if t213.toList = ([115, 104, 111, 112, 44, 117, 115, 101, 114] : List UInt8) then ((turncockref1_SameDesc.f k t214 y206).bind fun t232 => (if t232 = true then (if t217 = 2 then (if t218 = 2 then (if t219 = true then (if t223 = true then (some false) else (some (!bt224.2.2.2.2))) else (some false)) else (some false)) else (some false)) else (some false))) else (some false)) else (some false)) else (some false)) else (some false))) = some r := H
  have A3 := Aside0.mk A30
  clear A30
  replace H := Option.bind_eq_some_iff.mp H
  obtain ⟨⟨t224, t225, t228, t229, t230⟩, A40, H⟩ := H
  replace H : (if t210.toList = ([115, 104, 111, 112, 44, 117, 115, 101, 114, 124, 117, 115, 101, 114, 61, 97, 108, 124, 109, 105, 110, 117, 116, 101, 124, 50] : List UInt8) then (if t211 = 180 then (if t212 = true then (if t213.toList = ([115, 104, 111, 112, 44, 117, 115, 101, 114] : List UInt8) then ((turncockref1_SameDesc.f k t214 y206).bind fun t232 => (if t232 = true then (if t217 = 2 then (if t218 = 2 then (if t219 = true then (if t223 = true then (some false) else (some (!t230))) else (some false)) else (some false)) else (some false)) else (some false))) else (some false)) else (some false)) else (some false)) else (some false)) = some r := H
  have A4 := Aside0.mk A40
  clear A40
  by_cases c5 : t210.toList = ([115, 104, 111, 112, 44, 117, 115, 101, 114, 124, 117, 115, 101, 114, 61, 97, 108, 124, 109, 105, 110, 117, 116, 101, 124, 50] : List UInt8)
  · rw [if_pos c5] at H
    have c5b0 : (t210.toList == ([115, 104, 111, 112, 44, 117, 115, 101, 114, 124, 117, 115, 101, 114, 61, 97, 108, 124, 109, 105, 110, 117, 116, 101, 124, 50] : List UInt8)) = true := beq_iff_eq.mpr c5
    have c5b1 : (t210.toList != ([115, 104, 111, 112, 44, 117, 115, 101, 114, 124, 117, 115, 101, 114, 61, 97, 108, 124, 109, 105, 110, 117, 116, 101, 124, 50] : List UInt8)) = false := bne_eq_false_iff_eq.mpr c5
    clear c5
    by_cases c6 : t211 = 180
    · rw [if_pos c6] at H
      have c6b0 : (t211 == 180) = true := beq_iff_eq.mpr c6
      have c6b1 : (t211 != 180) = false := bne_eq_false_iff_eq.mpr c6
      clear c6
      by_cases c7 : t212 = true
      · subst c7
        have H1 : (if t213.toList = ([115, 104, 111, 112, 44, 117, 115, 101, 114] : List UInt8) then ((turncockref1_SameDesc.f k t214 y206).bind fun t232 => (if t232 = true then (if t217 = 2 then (if t218 = 2 then (if t219 = true then (if t223 = true then (some false) else (some (!t230))) else (some false)) else (some false)) else (some false)) else (some false))) else (some false)) = some r := by rw [if_pos rfl] at H; exact H
        clear H
        have H := H1
        clear H1
        by_cases c8 : t213.toList = ([115, 104, 111, 112, 44, 117, 115, 101, 114] : List UInt8)
        · rw [if_pos c8] at H
          have c8b0 : (t213.toList == ([115, 104, 111, 112, 44, 117, 115, 101, 114] : List UInt8)) = true := beq_iff_eq.mpr c8
          have c8b1 : (t213.toList != ([115, 104, 111, 112, 44, 117, 115, 101, 114] : List UInt8)) = false := bne_eq_false_iff_eq.mpr c8
          clear c8
          replace H := Option.bind_eq_some_iff.mp H
          obtain ⟨t232, A90, H⟩ := H
          replace H : (if t232 = true then (if t217 = 2 then (if t218 = 2 then (if t219 = true then (if t223 = true then (some false) else (some (!t230))) else (some false)) else (some false)) else (some false)) else (some false)) = some r := H
          have A9 := Aside0.mk A90
          clear A90
          by_cases c10 : t232 = true
          · subst c10
            have H1 : (if t217 = 2 then (if t218 = 2 then (if t219 = true then (if t223 = true then (some false) else (some (!t230))) else (some false)) else (some false)) else (some false)) = some r := by rw [if_pos rfl] at H; exact H
            clear H
            have H := H1
            clear H1
            by_cases c11 : t217 = 2
            · rw [if_pos c11] at H
              have c11b0 : (t217 == 2) = true := beq_iff_eq.mpr c11
              have c11b1 : (t217 != 2) = false := bne_eq_false_iff_eq.mpr c11
              clear c11
              by_cases c12 : t218 = 2
              · rw [if_pos c12] at H
                have c12b0 : (t218 == 2) = true := beq_iff_eq.mpr c12
                have c12b1 : (t218 != 2) = false := bne_eq_false_iff_eq.mpr c12
                clear c12
                by_cases c13 : t219 = true
                · subst c13
                  have H1 : (if t223 = true then (some false) else (some (!t230))) = some r := by rw [if_pos rfl] at H; exact H
                  clear H
                  have H := H1
                  clear H1
                  by_cases c14 : t223 = true
                  · subst c14
                    have H1 : (some false) = some r := by rw [if_pos rfl] at H; exact H
                    clear H
                    have H := H1
                    clear H1
                    exact absurd ((Option.some.inj H).trans hr_) (by decide)
                  · replace c14 := Bool.eq_false_iff.mpr c14
                    subst c14
                    have H1 : (some (!t230)) = some r := by rw [if_neg (show ¬ (false = true) by decide)] at H; exact H
                    clear H
                    have H := H1
                    clear H1
                    first
                      | exact absurd ((Option.some.inj H).trans hr_) (by decide)
                      | (obtain rfl := Option.some.inj H
                         clear hr_
                         go_enter Tryd.func28, Tryd.ntmps28
                         go_wp2_with (first | ((with_reducible refine gate_dst (N := 19) rfl ?_); refine Kd.R_lit k47 _ 47 ?hg (N := 19) ?hd (xs := ([(⟨(⟨#[117, 115, 101, 114]⟩ : ByteArray), (⟨#[97, 108]⟩ : ByteArray)⟩ : S47)] : List (S47))) (inner := [.string (⟨#[117, 115, 101, 114]⟩ : ByteArray), .string (⟨#[97, 108]⟩ : ByteArray)]) (ok := fun _ => True) (okp := fun _ => True) ?hr ?hp (fun _ hk => hk) trivial (Below.refl _ _) (Nat.le_refl _) (by simp) ?_; (case hd => rfl); (case hg => rfl); (case hr => first | (go_simp; done) | (go_simp; rfl)); (case hp => exact (Reps.c2 (show Kd.M k47 _ _ _ (⟨(⟨#[117, 115, 101, 114]⟩ : ByteArray), (⟨#[97, 108]⟩ : ByteArray)⟩ : S47) [.string (⟨#[117, 115, 101, 114]⟩ : ByteArray), .string (⟨#[97, 108]⟩ : ByteArray)] from (k47_mkM _ _ _ (⟨(⟨#[117, 115, 101, 114]⟩ : ByteArray), (⟨#[97, 108]⟩ : ByteArray)⟩ : S47) )) (Reps.none _ _))); intro v207 w37 ho38 hb hg_ hnew_; clear hg_ hnew_; (first | rw [← Ny206.out] at ho38 | (simp only [Int.reduceToNat] at ho38; rw [← Ny206.out] at ho38)); have n0_ := Aside0.mk (Kd.R_lower ho38 (below_size (by repeat (first | (with_reducible first | exact HB.out | apply below_alloc | apply pw_below_drewN | apply below_drew1) | exact HB.out)))); have n1_ := Aside0.mk (below_step (by repeat (first | (with_reducible first | exact HB.out | apply below_alloc | apply pw_below_drewN | apply below_drew1) | exact HB.out)) hb); clear HB; have HO208 := n0_; have HB := n1_; clear n0_ n1_; clear hb ho38; obtain ⟨Ao39, co39, eo39⟩ := Kd.R_slice HO208.out; subst eo39) | ((with_reducible refine gate_dst (N := 1) rfl ?_); refine box_event ?hg (N := 1) ?hd (cs := #[.slice none 0 0]) (t := 24) ?hr ?_; (case hd => rfl); (case hg => rfl); (case hr => first | (go_simp; done) | (go_simp; rfl)); intro gb209 hg w40 hbox hb; have n0_ := Aside0.mk (Kd.R_below (by (with_reducible repeat (first | apply Kd.R_alloc | apply Kd.R_drewN | apply Kd.R_drew)); exact HO208.out) hb); have n1_ := Aside0.mk (below_step (by repeat (first | (with_reducible first | exact HB.out | apply below_alloc | apply pw_below_drewN | apply below_drew1) | exact HB.out)) hb); have n2_ := Aside0.mk (hbox); have n3_ := Aside0.mk ((by rw [hg]; exact (below_size (by repeat (first | (with_reducible first | exact HB.out | apply below_alloc | apply pw_below_drewN | apply below_drew1) | exact HB.out))) : w.heap.size ≤ gb209)); have n4_ := Aside0.mk ((by rw [hg]; exact (below_size (by repeat (first | (with_reducible first | exact HB.out | apply below_alloc | apply pw_below_drewN | apply below_drew1) | exact HB.out))) : w.heap.size ≤ gb209)); clear HO208; clear HB; have HO208 := n0_; have HB := n1_; have BK209 := n2_; have GW209 := n3_; have GE209 := n4_; clear n0_ n1_ n2_ n3_ n4_; clear hb hbox hg; have hcz41_0 : w40.cell? ⟨gb209, 0, none⟩ = some (.slice none 0 0) := (blk_cell BK209.out 0).trans rfl; have hfz41_0 := blk_frozen BK209.out 0) | ((with_reducible refine gate_callee (f := 29) rfl ?_); refine goesL_ (some 23) rfl rfl Tryd.func29 (by kernel_rfl) rfl #[.string (⟨#[115, 104, 111, 112, 44, 117, 115, 101, 114]⟩ : ByteArray), .agg #[.slice Ao39 y206.length co39], .int .i64 2, .int .i64 125] rfl (by (try simp only [List.map_toArray, List.map_cons, List.map_nil]); first | done | rfl | (simp only [List.length_drop, List.length_take]; rfl)) ?_; (with_reducible refine (key_Make.calls k (⟨#[115, 104, 111, 112, 44, 117, 115, 101, 114]⟩ : ByteArray) _ _ y206 2 125 t210 t211 true _ ?side1 ?side2 A1.out).mono ?_); (case side1 => refine (Kd.R_reads' (e := 47) (base := w.heap.size) (ok := fun k_ => True) (n := y206.length) (c := co39) ?_).2.2; exact (by (with_reducible repeat (first | apply Kd.R_alloc | apply Kd.R_drewN | apply Kd.R_drew)); exact (Kd.R_mono (Kd.R_far (p := ⟨gb209, 0, none⟩) (Kd.R_types HO208.out BK209.out (by decide)) (fun _ hk => hk.2) (.slice Ao39 y206.length co39)) (fun _ h_ => h_.1)))); (case side2 => exact (Kd.R_reads' HO208.out).2.1); rintro e w42 ⟨rfl, hb⟩; refine ⟨_, rfl, ?_⟩; have n0_ := Aside0.mk (Kd.R_below (by (with_reducible repeat (first | apply Kd.R_alloc | apply Kd.R_drewN | apply Kd.R_drew)); exact (Kd.R_mono (Kd.R_far (p := ⟨gb209, 0, none⟩) (Kd.R_types HO208.out BK209.out (by decide)) (fun _ hk => hk.2) (.slice Ao39 y206.length co39)) (fun _ h_ => h_.1))) hb); have n1_ := Aside0.mk (blk_below (g := gb209) (o := .cells #[.slice Ao39 y206.length co39] 24 (0, 0)) (by (with_reducible repeat (first | refine blk_drewN ?_ _ | refine blk_drew ?_ | refine blk_alloc ?_ _)); refine blk_put (cs := #[.slice none 0 0]) ?_ 0 _ rfl; (with_reducible repeat (first | refine blk_drewN ?_ _ | refine blk_drew ?_ | refine blk_alloc ?_ _)); exact BK209.out) hb); have n2_ := Aside0.mk (below_step (by repeat (first | (with_reducible first | exact HB.out | apply below_alloc | apply pw_below_drewN | apply below_drew1 | refine below_set ?_ GE209.out) | exact HB.out)) hb); clear HO208; clear BK209; clear HB; have HO208 := n0_; have BK209 := n1_; have HB := n2_; clear n0_ n1_ n2_; (try clear hb); (try clear hb2); (try clear hk); (try clear hi)) | ((with_reducible refine gate_callee (f := 31) rfl ?_); refine goesL_ (some 29) rfl rfl Tryd.func31 (by kernel_rfl) rfl #[.string t210] rfl (by (try simp only [List.map_toArray, List.map_cons, List.map_nil]); first | done | rfl | (simp only [List.length_drop, List.length_take]; rfl)) ?_; (with_reducible refine (key_Parse.calls k t210 t213 t214 t217 t218 true _ A2.out).mono ?_); rintro e w43 ⟨v215, rfl, ho0, hb⟩; refine ⟨_, rfl, ?_⟩; have n0_ := Aside0.mk (Kd.R_elder' (by (with_reducible repeat (first | apply Kd.R_alloc | apply Kd.R_drewN | apply Kd.R_drew)); exact HO208.out) (Kd.R_base ho0) hb); have n1_ := Aside0.mk (Kd.R_lower (Kd.R_new' ho0 (Kd.R_lt (by (with_reducible repeat (first | apply Kd.R_alloc | apply Kd.R_drewN | apply Kd.R_drew)); exact HO208.out))) (below_size (by repeat (first | (with_reducible first | exact HB.out | apply below_alloc | apply pw_below_drewN | apply below_drew1 | refine below_set ?_ GE209.out) | exact HB.out)))); have n2_ := Aside0.mk (blk_below (g := gb209) (o := .cells #[.slice Ao39 y206.length co39] 24 (0, 0)) (by (with_reducible repeat (first | refine blk_drewN ?_ _ | refine blk_drew ?_ | refine blk_alloc ?_ _)); exact BK209.out) hb); have n3_ := Aside0.mk (below_step (by repeat (first | (with_reducible first | exact HB.out | apply below_alloc | apply pw_below_drewN | apply below_drew1 | refine below_set ?_ GE209.out) | exact HB.out)) hb); clear HO208; clear BK209; clear HB; have HO208 := n0_; have HO216 := n1_; have BK209 := n2_; have HB := n3_; clear n0_ n1_ n2_ n3_; (try clear hb); (try clear hb2); (try clear hk); (try clear hi); (try clear ho0)) | ((with_reducible refine gate_dst (N := 6) rfl ?_); refine box_event ?hg (N := 6) ?hd (cs := #[.slice none 0 0]) (t := 24) ?hr ?_; (case hd => rfl); (case hg => rfl); (case hr => first | (go_simp; done) | (go_simp; rfl)); intro gb220 hg w44 hbox hb; have n0_ := Aside0.mk (Kd.R_below (by (with_reducible repeat (first | apply Kd.R_alloc | apply Kd.R_drewN | apply Kd.R_drew)); exact HO208.out) hb); have n1_ := Aside0.mk (Kd.R_below (by (with_reducible repeat (first | apply Kd.R_alloc | apply Kd.R_drewN | apply Kd.R_drew)); exact HO216.out) hb); have n2_ := Aside0.mk (blk_below (g := gb209) (o := .cells #[.slice Ao39 y206.length co39] 24 (0, 0)) (by (with_reducible repeat (first | refine blk_drewN ?_ _ | refine blk_drew ?_ | refine blk_alloc ?_ _)); exact BK209.out) hb); have n3_ := Aside0.mk (below_step (by repeat (first | (with_reducible first | exact HB.out | apply below_alloc | apply pw_below_drewN | apply below_drew1 | refine below_set ?_ GE209.out) | exact HB.out)) hb); have n4_ := Aside0.mk (hbox); have n5_ := Aside0.mk ((by rw [hg]; exact (below_size (by repeat (first | (with_reducible first | exact HB.out | apply below_alloc | apply pw_below_drewN | apply below_drew1 | refine below_set ?_ GE209.out) | exact HB.out))) : w.heap.size ≤ gb220)); have n6_ := Aside0.mk ((by rw [hg]; exact (below_size (by repeat (first | (with_reducible first | exact HB.out | apply below_alloc | apply pw_below_drewN | apply below_drew1 | refine below_set ?_ GE209.out) | exact HB.out))) : w.heap.size ≤ gb220)); have n7_ := Aside0.mk ((by rw [hg]; exact Nat.ne_of_lt (blk_lt (g := gb209) (o := .cells #[.slice Ao39 y206.length co39] 24 (0, 0)) (by (with_reducible repeat (first | refine blk_drewN ?_ _ | refine blk_drew ?_ | refine blk_alloc ?_ _)); exact BK209.out)) : gb209 ≠ gb220)); have n8_ := Aside0.mk ((by rw [hg]; exact Nat.ne_of_gt (blk_lt (g := gb209) (o := .cells #[.slice Ao39 y206.length co39] 24 (0, 0)) (by (with_reducible repeat (first | refine blk_drewN ?_ _ | refine blk_drew ?_ | refine blk_alloc ?_ _)); exact BK209.out)) : gb220 ≠ gb209)); clear HO208; clear HO216; clear BK209; clear HB; have HO208 := n0_; have HO216 := n1_; have BK209 := n2_; have HB := n3_; have BK220 := n4_; have GW220 := n5_; have GE220 := n6_; have NB209_220 := n7_; have NB220_209 := n8_; clear n0_ n1_ n2_ n3_ n4_ n5_ n6_ n7_ n8_; clear hb hbox hg; obtain ⟨Ao45, co45, eo45⟩ := Kd.R_slice HO216.out; subst eo45; have hnb46 := NB220_209.out; have hnc46 := NB209_220.out; have hcz47_0 : w44.cell? ⟨gb220, 0, none⟩ = some (.slice none 0 0) := (blk_cell BK220.out 0).trans rfl; have hfz47_0 := blk_frozen BK220.out 0; have hcz48_0 : w44.cell? ⟨gb209, 0, none⟩ = some (.slice Ao39 y206.length co39) := (blk_cell BK209.out 0).trans rfl; have hfz48_0 := blk_frozen BK209.out 0) | ((with_reducible refine gate_callee (f := 29) rfl ?_); refine goesL_ (some 37) rfl rfl Tryd.func29 (by kernel_rfl) rfl #[.string (⟨#[97, 124, 98]⟩ : ByteArray), .agg #[.slice Ao39 y206.length co39], .int .i64 2, .int .i64 0] rfl (by (try simp only [List.map_toArray, List.map_cons, List.map_nil]); first | done | rfl | (simp only [List.length_drop, List.length_take]; rfl)) ?_; (with_reducible refine (key_Make.calls k (⟨#[97, 124, 98]⟩ : ByteArray) _ _ y206 2 0 t221 t222 false _ ?side1 ?side2 A3.out).mono ?_); (case side1 => refine (Kd.R_reads' (e := 47) (base := w.heap.size) (ok := fun k_ => (True ∧ some k_ ≠ (.slice Ao45 t214.length co45 : Value).ownBlock)) (n := y206.length) (c := co39) ?_).2.2; exact (by (with_reducible repeat (first | apply Kd.R_alloc | apply Kd.R_drewN | apply Kd.R_drew)); exact (Kd.R_mono (Kd.R_far (p := ⟨gb220, 0, none⟩) (Kd.R_types HO208.out BK220.out (by decide)) (fun _ hk => hk.2) (.slice Ao45 t214.length co45)) (fun _ h_ => h_.1)))); (case side2 => exact (Kd.R_reads' HO208.out).2.1); rintro e w49 ⟨rfl, hb⟩; refine ⟨_, rfl, ?_⟩; have n0_ := Aside0.mk (Kd.R_below (by (with_reducible repeat (first | apply Kd.R_alloc | apply Kd.R_drewN | apply Kd.R_drew)); exact (Kd.R_mono (Kd.R_far (p := ⟨gb220, 0, none⟩) (Kd.R_types HO208.out BK220.out (by decide)) (fun _ hk => hk.2) (.slice Ao45 t214.length co45)) (fun _ h_ => h_.1))) hb); have n1_ := Aside0.mk (Kd.R_below (by (with_reducible repeat (first | apply Kd.R_alloc | apply Kd.R_drewN | apply Kd.R_drew)); exact (Kd.R_mono (Kd.R_far (p := ⟨gb220, 0, none⟩) (Kd.R_types HO216.out BK220.out (by decide)) (fun _ hk => hk.2) (.slice Ao45 t214.length co45)) (fun _ h_ => h_.1))) hb); have n2_ := Aside0.mk (blk_below (g := gb209) (o := .cells #[.slice Ao39 y206.length co39] 24 (0, 0)) (by (with_reducible repeat (first | refine blk_drewN ?_ _ | refine blk_drew ?_ | refine blk_alloc ?_ _)); refine blk_far ?_ NB209_220.out _; (with_reducible repeat (first | refine blk_drewN ?_ _ | refine blk_drew ?_ | refine blk_alloc ?_ _)); exact BK209.out) hb); have n3_ := Aside0.mk (blk_below (g := gb220) (o := .cells #[.slice Ao45 t214.length co45] 24 (0, 0)) (by (with_reducible repeat (first | refine blk_drewN ?_ _ | refine blk_drew ?_ | refine blk_alloc ?_ _)); refine blk_put (cs := #[.slice none 0 0]) ?_ 0 _ rfl; (with_reducible repeat (first | refine blk_drewN ?_ _ | refine blk_drew ?_ | refine blk_alloc ?_ _)); exact BK220.out) hb); have n4_ := Aside0.mk (below_step (by repeat (first | (with_reducible first | exact HB.out | apply below_alloc | apply pw_below_drewN | apply below_drew1 | refine below_set ?_ GE209.out | refine below_set ?_ GE220.out) | exact HB.out)) hb); clear HO208; clear HO216; clear BK209; clear BK220; clear HB; have HO208 := n0_; have HO216 := n1_; have BK209 := n2_; have BK220 := n3_; have HB := n4_; clear n0_ n1_ n2_ n3_ n4_; (try clear hb); (try clear hb2); (try clear hk); (try clear hi)) | ((with_reducible refine gate_callee (f := 31) rfl ?_); refine goesL_ (some 42) rfl rfl Tryd.func31 (by kernel_rfl) rfl #[.string (⟨#[97, 124, 117, 115, 101, 114, 61, 97, 108, 124, 119, 101, 101, 107, 124, 50]⟩ : ByteArray)] rfl (by (try simp only [List.map_toArray, List.map_cons, List.map_nil]); first | done | rfl | (simp only [List.length_drop, List.length_take]; rfl)) ?_; (with_reducible refine (key_Parse.calls k (⟨#[97, 124, 117, 115, 101, 114, 61, 97, 108, 124, 119, 101, 101, 107, 124, 50]⟩ : ByteArray) t224 t225 t228 t229 t230 _ A4.out).mono ?_); rintro e w50 ⟨v226, rfl, ho0, hb⟩; refine ⟨_, rfl, ?_⟩; have n0_ := Aside0.mk (Kd.R_elder' (by (with_reducible repeat (first | apply Kd.R_alloc | apply Kd.R_drewN | apply Kd.R_drew)); exact HO208.out) (Kd.R_base ho0) hb); have n1_ := Aside0.mk (Kd.R_elder' (by (with_reducible repeat (first | apply Kd.R_alloc | apply Kd.R_drewN | apply Kd.R_drew)); exact HO216.out) (Kd.R_base ho0) hb); have n2_ := Aside0.mk (Kd.R_lower (Kd.R_new' (Kd.R_new' ho0 (Kd.R_lt (by (with_reducible repeat (first | apply Kd.R_alloc | apply Kd.R_drewN | apply Kd.R_drew)); exact HO208.out))) (Kd.R_lt (by (with_reducible repeat (first | apply Kd.R_alloc | apply Kd.R_drewN | apply Kd.R_drew)); exact HO216.out))) (below_size (by repeat (first | (with_reducible first | exact HB.out | apply below_alloc | apply pw_below_drewN | apply below_drew1 | refine below_set ?_ GE209.out | refine below_set ?_ GE220.out) | exact HB.out)))); have n3_ := Aside0.mk (blk_below (g := gb209) (o := .cells #[.slice Ao39 y206.length co39] 24 (0, 0)) (by (with_reducible repeat (first | refine blk_drewN ?_ _ | refine blk_drew ?_ | refine blk_alloc ?_ _)); exact BK209.out) hb); have n4_ := Aside0.mk (blk_below (g := gb220) (o := .cells #[.slice Ao45 t214.length co45] 24 (0, 0)) (by (with_reducible repeat (first | refine blk_drewN ?_ _ | refine blk_drew ?_ | refine blk_alloc ?_ _)); exact BK220.out) hb); have n5_ := Aside0.mk (below_step (by repeat (first | (with_reducible first | exact HB.out | apply below_alloc | apply pw_below_drewN | apply below_drew1 | refine below_set ?_ GE209.out | refine below_set ?_ GE220.out) | exact HB.out)) hb); clear HO208; clear HO216; clear BK209; clear BK220; clear HB; have HO208 := n0_; have HO216 := n1_; have HO227 := n2_; have BK209 := n3_; have BK220 := n4_; have HB := n5_; clear n0_ n1_ n2_ n3_ n4_ n5_; (try clear hb); (try clear hb2); (try clear hk); (try clear hi); (try clear ho0)) | ((with_reducible refine gate_dst (N := 14) rfl ?_); refine box_event ?hg (N := 14) ?hd (cs := #[.slice none 0 0]) (t := 24) ?hr ?_; (case hd => rfl); (case hg => rfl); (case hr => first | (go_simp; done) | (go_simp; rfl)); intro gb231 hg w51 hbox hb; have n0_ := Aside0.mk (Kd.R_below (by (with_reducible repeat (first | apply Kd.R_alloc | apply Kd.R_drewN | apply Kd.R_drew)); exact HO208.out) hb); have n1_ := Aside0.mk (Kd.R_below (by (with_reducible repeat (first | apply Kd.R_alloc | apply Kd.R_drewN | apply Kd.R_drew)); exact HO216.out) hb); have n2_ := Aside0.mk (Kd.R_below (by (with_reducible repeat (first | apply Kd.R_alloc | apply Kd.R_drewN | apply Kd.R_drew)); exact HO227.out) hb); have n3_ := Aside0.mk (blk_below (g := gb209) (o := .cells #[.slice Ao39 y206.length co39] 24 (0, 0)) (by (with_reducible repeat (first | refine blk_drewN ?_ _ | refine blk_drew ?_ | refine blk_alloc ?_ _)); exact BK209.out) hb); have n4_ := Aside0.mk (blk_below (g := gb220) (o := .cells #[.slice Ao45 t214.length co45] 24 (0, 0)) (by (with_reducible repeat (first | refine blk_drewN ?_ _ | refine blk_drew ?_ | refine blk_alloc ?_ _)); exact BK220.out) hb); have n5_ := Aside0.mk (below_step (by repeat (first | (with_reducible first | exact HB.out | apply below_alloc | apply pw_below_drewN | apply below_drew1 | refine below_set ?_ GE209.out | refine below_set ?_ GE220.out) | exact HB.out)) hb); have n6_ := Aside0.mk (hbox); have n7_ := Aside0.mk ((by rw [hg]; exact (below_size (by repeat (first | (with_reducible first | exact HB.out | apply below_alloc | apply pw_below_drewN | apply below_drew1 | refine below_set ?_ GE209.out | refine below_set ?_ GE220.out) | exact HB.out))) : w.heap.size ≤ gb231)); have n8_ := Aside0.mk ((by rw [hg]; exact (below_size (by repeat (first | (with_reducible first | exact HB.out | apply below_alloc | apply pw_below_drewN | apply below_drew1 | refine below_set ?_ GE209.out | refine below_set ?_ GE220.out) | exact HB.out))) : w.heap.size ≤ gb231)); have n9_ := Aside0.mk ((by rw [hg]; exact Nat.ne_of_lt (blk_lt (g := gb209) (o := .cells #[.slice Ao39 y206.length co39] 24 (0, 0)) (by (with_reducible repeat (first | refine blk_drewN ?_ _ | refine blk_drew ?_ | refine blk_alloc ?_ _)); exact BK209.out)) : gb209 ≠ gb231)); have n10_ := Aside0.mk ((by rw [hg]; exact Nat.ne_of_gt (blk_lt (g := gb209) (o := .cells #[.slice Ao39 y206.length co39] 24 (0, 0)) (by (with_reducible repeat (first | refine blk_drewN ?_ _ | refine blk_drew ?_ | refine blk_alloc ?_ _)); exact BK209.out)) : gb231 ≠ gb209)); have n11_ := Aside0.mk ((by rw [hg]; exact Nat.ne_of_lt (blk_lt (g := gb220) (o := .cells #[.slice Ao45 t214.length co45] 24 (0, 0)) (by (with_reducible repeat (first | refine blk_drewN ?_ _ | refine blk_drew ?_ | refine blk_alloc ?_ _)); exact BK220.out)) : gb220 ≠ gb231)); have n12_ := Aside0.mk ((by rw [hg]; exact Nat.ne_of_gt (blk_lt (g := gb220) (o := .cells #[.slice Ao45 t214.length co45] 24 (0, 0)) (by (with_reducible repeat (first | refine blk_drewN ?_ _ | refine blk_drew ?_ | refine blk_alloc ?_ _)); exact BK220.out)) : gb231 ≠ gb220)); clear HO208; clear HO216; clear HO227; clear BK209; clear BK220; clear HB; have HO208 := n0_; have HO216 := n1_; have HO227 := n2_; have BK209 := n3_; have BK220 := n4_; have HB := n5_; have BK231 := n6_; have GW231 := n7_; have GE231 := n8_; have NB209_231 := n9_; have NB231_209 := n10_; have NB220_231 := n11_; have NB231_220 := n12_; clear n0_ n1_ n2_ n3_ n4_ n5_ n6_ n7_ n8_ n9_ n10_ n11_ n12_; clear hb hbox hg; obtain ⟨Ao52, co52, eo52⟩ := Kd.R_slice HO227.out; subst eo52; have hnb53 := NB231_209.out; have hnc53 := NB209_231.out; have hnb54 := NB231_220.out; have hnc54 := NB220_231.out; have hcz55_0 : w51.cell? ⟨gb231, 0, none⟩ = some (.slice none 0 0) := (blk_cell BK231.out 0).trans rfl; have hfz55_0 := blk_frozen BK231.out 0; have hcz56_0 : w51.cell? ⟨gb220, 0, none⟩ = some (.slice Ao45 t214.length co45) := (blk_cell BK220.out 0).trans rfl; have hfz56_0 := blk_frozen BK220.out 0; have hcz57_0 : w51.cell? ⟨gb209, 0, none⟩ = some (.slice Ao39 y206.length co39) := (blk_cell BK209.out 0).trans rfl; have hfz57_0 := blk_frozen BK209.out 0) | (go_at_call 20; (with_reducible refine (turncockref1_SameDesc.calls k _ _ t214 _ _ y206 true _ ?side1 ?side2 ?side3 ?side4 A9.out).mono ?_); (case side1 => refine (Kd.R_reads' (e := 47) (base := w.heap.size) (ok := fun k_ => ((True ∧ some k_ ≠ (.slice Ao39 y206.length co39 : Value).ownBlock) ∧ some k_ ≠ (.slice Ao52 t225.length co52 : Value).ownBlock)) (n := t214.length) (c := co45) ?_).2.2; exact (by (with_reducible repeat (first | apply Kd.R_alloc | apply Kd.R_drewN | apply Kd.R_drew)); exact (Kd.R_mono (Kd.R_far (p := ⟨gb231, 0, none⟩) (Kd.R_types HO216.out BK231.out (by decide)) (fun _ hk => hk.2) (.slice Ao52 t225.length co52)) (fun _ h_ => h_.1)))); (case side2 => exact (Kd.R_reads' HO216.out).2.1); (case side3 => refine (Kd.R_reads' (e := 47) (base := w.heap.size) (ok := fun k_ => ((True ∧ some k_ ≠ (.slice Ao45 t214.length co45 : Value).ownBlock) ∧ some k_ ≠ (.slice Ao52 t225.length co52 : Value).ownBlock)) (n := y206.length) (c := co39) ?_).2.2; exact (by (with_reducible repeat (first | apply Kd.R_alloc | apply Kd.R_drewN | apply Kd.R_drew)); exact (Kd.R_mono (Kd.R_far (p := ⟨gb231, 0, none⟩) (Kd.R_types HO208.out BK231.out (by decide)) (fun _ hk => hk.2) (.slice Ao52 t225.length co52)) (fun _ h_ => h_.1)))); (case side4 => exact (Kd.R_reads' HO208.out).2.1); rintro e w58 ⟨rfl, hb⟩; have n0_ := Aside0.mk (Kd.R_below (by (with_reducible repeat (first | apply Kd.R_alloc | apply Kd.R_drewN | apply Kd.R_drew)); exact (Kd.R_mono (Kd.R_far (p := ⟨gb231, 0, none⟩) (Kd.R_types HO208.out BK231.out (by decide)) (fun _ hk => hk.2) (.slice Ao52 t225.length co52)) (fun _ h_ => h_.1))) hb); have n1_ := Aside0.mk (Kd.R_below (by (with_reducible repeat (first | apply Kd.R_alloc | apply Kd.R_drewN | apply Kd.R_drew)); exact (Kd.R_mono (Kd.R_far (p := ⟨gb231, 0, none⟩) (Kd.R_types HO216.out BK231.out (by decide)) (fun _ hk => hk.2) (.slice Ao52 t225.length co52)) (fun _ h_ => h_.1))) hb); have n2_ := Aside0.mk (Kd.R_below (by (with_reducible repeat (first | apply Kd.R_alloc | apply Kd.R_drewN | apply Kd.R_drew)); exact (Kd.R_mono (Kd.R_far (p := ⟨gb231, 0, none⟩) (Kd.R_types HO227.out BK231.out (by decide)) (fun _ hk => hk.2) (.slice Ao52 t225.length co52)) (fun _ h_ => h_.1))) hb); have n3_ := Aside0.mk (blk_below (g := gb209) (o := .cells #[.slice Ao39 y206.length co39] 24 (0, 0)) (by (with_reducible repeat (first | refine blk_drewN ?_ _ | refine blk_drew ?_ | refine blk_alloc ?_ _)); refine blk_far ?_ NB209_231.out _; (with_reducible repeat (first | refine blk_drewN ?_ _ | refine blk_drew ?_ | refine blk_alloc ?_ _)); exact BK209.out) hb); have n4_ := Aside0.mk (blk_below (g := gb220) (o := .cells #[.slice Ao45 t214.length co45] 24 (0, 0)) (by (with_reducible repeat (first | refine blk_drewN ?_ _ | refine blk_drew ?_ | refine blk_alloc ?_ _)); refine blk_far ?_ NB220_231.out _; (with_reducible repeat (first | refine blk_drewN ?_ _ | refine blk_drew ?_ | refine blk_alloc ?_ _)); exact BK220.out) hb); have n5_ := Aside0.mk (blk_below (g := gb231) (o := .cells #[.slice Ao52 t225.length co52] 24 (0, 0)) (by (with_reducible repeat (first | refine blk_drewN ?_ _ | refine blk_drew ?_ | refine blk_alloc ?_ _)); refine blk_put (cs := #[.slice none 0 0]) ?_ 0 _ rfl; (with_reducible repeat (first | refine blk_drewN ?_ _ | refine blk_drew ?_ | refine blk_alloc ?_ _)); exact BK231.out) hb); have n6_ := Aside0.mk (below_step (by repeat (first | (with_reducible first | exact HB.out | apply below_alloc | apply pw_below_drewN | apply below_drew1 | refine below_set ?_ GE209.out | refine below_set ?_ GE220.out | refine below_set ?_ GE231.out) | exact HB.out)) hb); clear HO208; clear HO216; clear HO227; clear BK209; clear BK220; clear BK231; clear HB; have HO208 := n0_; have HO216 := n1_; have HO227 := n2_; have BK209 := n3_; have BK220 := n4_; have BK231 := n5_; have HB := n6_; clear n0_ n1_ n2_ n3_ n4_ n5_ n6_; (try clear hb); (try clear hb2); (try clear hk); (try clear hi)))
                         go_ret
                         exact ⟨by first | rfl | (simp [errW_none, errW_some] <;> rfl) | (simp [*, errW_none, errW_some] <;> rfl), by repeat (first | (with_reducible first | exact HB.out | apply below_alloc | apply pw_below_drewN | apply below_drew1 | refine below_set ?_ GE209.out | refine below_set ?_ GE220.out | refine below_set ?_ GE231.out) | exact HB.out)⟩)
                · replace c13 := Bool.eq_false_iff.mpr c13
                  subst c13
                  have H1 : (some false) = some r := by rw [if_neg (show ¬ (false = true) by decide)] at H; exact H
                  clear H
                  have H := H1
                  clear H1
                  exact absurd ((Option.some.inj H).trans hr_) (by decide)
              · rw [if_neg c12] at H
                have c12b0 : (t218 == 2) = false := beq_eq_false_iff_ne.mpr c12
                have c12b1 : (t218 != 2) = true := bne_iff_ne.mpr c12
                exact absurd ((Option.some.inj H).trans hr_) (by decide)
            · rw [if_neg c11] at H
              have c11b0 : (t217 == 2) = false := beq_eq_false_iff_ne.mpr c11
              have c11b1 : (t217 != 2) = true := bne_iff_ne.mpr c11
              exact absurd ((Option.some.inj H).trans hr_) (by decide)
          · replace c10 := Bool.eq_false_iff.mpr c10
            subst c10
            have H1 : (some false) = some r := by rw [if_neg (show ¬ (false = true) by decide)] at H; exact H
            clear H
            have H := H1
            clear H1
            exact absurd ((Option.some.inj H).trans hr_) (by decide)
        · rw [if_neg c8] at H
          have c8b0 : (t213.toList == ([115, 104, 111, 112, 44, 117, 115, 101, 114] : List UInt8)) = false := beq_eq_false_iff_ne.mpr c8
          have c8b1 : (t213.toList != ([115, 104, 111, 112, 44, 117, 115, 101, 114] : List UInt8)) = true := bne_iff_ne.mpr c8
          exact absurd ((Option.some.inj H).trans hr_) (by decide)
      · replace c7 := Bool.eq_false_iff.mpr c7
        subst c7
        have H1 : (some false) = some r := by rw [if_neg (show ¬ (false = true) by decide)] at H; exact H
        clear H
        have H := H1
        clear H1
        exact absurd ((Option.some.inj H).trans hr_) (by decide)
    · rw [if_neg c6] at H
      have c6b0 : (t211 == 180) = false := beq_eq_false_iff_ne.mpr c6
      have c6b1 : (t211 != 180) = true := bne_iff_ne.mpr c6
      exact absurd ((Option.some.inj H).trans hr_) (by decide)
  · rw [if_neg c5] at H
    have c5b0 : (t210.toList == ([115, 104, 111, 112, 44, 117, 115, 101, 114, 124, 117, 115, 101, 114, 61, 97, 108, 124, 109, 105, 110, 117, 116, 101, 124, 50] : List UInt8)) = false := beq_eq_false_iff_ne.mpr c5
    have c5b1 : (t210.toList != ([115, 104, 111, 112, 44, 117, 115, 101, 114, 124, 117, 115, 101, 114, 61, 97, 108, 124, 109, 105, 110, 117, 116, 101, 124, 50] : List UInt8)) = true := bne_iff_ne.mpr c5
    exact absurd ((Option.some.inj H).trans hr_) (by decide)
def turncocklaw25_awake.f (k : Nat) : Option (Bool) := if turncocklaw25_awake.g k = some true then some true else none
theorem turncocklaw25_awake.mono : ∀ k, LeO (turncocklaw25_awake.f k ) (turncocklaw25_awake.f (k + 1) ) := by
  intro k r h
  unfold turncocklaw25_awake.f at h ⊢
  split at h
  · rename_i hg; rw [if_pos (turncocklaw25_awake.gmono k _ hg)]; exact h
  · cases h
theorem turncocklaw25_awake.calls (k : Nat) (r : Bool) (w : World) (h : turncocklaw25_awake.f k = some r) :
    Calls Tryd.prog 28 #[] w fun e w' => e = .returned (.bool r) ∧ Below w.heap.size w w' := by
  unfold turncocklaw25_awake.f at h
  split at h
  · rename_i hg; obtain rfl := Option.some.inj h; exact turncocklaw25_awake.gcalls k true w hg rfl
  · cases h

/-! ### turncockref1_Name: function 26 -/
mutual
def turncockref1_Name.j0 : Nat → ByteArray → Bool → Option (Bool)
  | 0, _, _ => none
  | k + 1, x0, x11 => if x11 = true then (some false) else (turncockref1_Name.l0 k x0 0)
def turncockref1_Name.l0 : Nat → ByteArray → Int → Option (Bool)
  | 0, _, _ => none
  | k + 1, x0, x3 => if x3 < (x0.size : Int) then (if 0 ≤ x3 then (if (bt x0 x3) < 33 then (some false) else (if (bt x0 x3) > 126 then (some false) else (turncockref1_Name.l0 k x0 (wrap64 (x3 + 1))))) else (none)) else (some true)
end
def turncockref1_Name.f (k : Nat) (a0 : ByteArray) : Option (Bool) := if (a0.size : Int) < 1 then (turncockref1_Name.j0 k a0 true) else (turncockref1_Name.j0 k a0 (decide ((a0.size : Int) > 64)))
theorem turncockref1_Name.mono_l : ∀ k, (∀ y0 y1, LeO (turncockref1_Name.j0 k y0 y1) (turncockref1_Name.j0 (k + 1) y0 y1)) ∧ (∀ y0 y1, LeO (turncockref1_Name.l0 k y0 y1) (turncockref1_Name.l0 (k + 1) y0 y1))
  | 0 => ⟨fun _ _ r h => by simp [turncockref1_Name.j0] at h, fun _ _ r h => by simp [turncockref1_Name.l0] at h⟩
  | k + 1 => by
    obtain ⟨ih0, ih1⟩ := turncockref1_Name.mono_l k
    refine ⟨?_, ?_⟩
    · intro y0 y1
      unfold turncockref1_Name.j0
      repeat' first
      | (with_reducible exact ih0 _ _)
      | (with_reducible exact ih1 _ _)
      | (with_reducible exact LeO.refl _)
      | (with_reducible exact LeO.none _)
      | (with_reducible refine LeO.ite ?_ ?_)
      | (with_reducible refine LeO.bind ?_ (fun _ => ?_))
      | exact ih0 _ _
      | exact ih1 _ _
      | exact LeO.none _
      | refine LeO.ite ?_ ?_
      | refine LeO.bind ?_ (fun _ => ?_)
    · intro y0 y1
      unfold turncockref1_Name.l0
      repeat' first
      | (with_reducible exact ih0 _ _)
      | (with_reducible exact ih1 _ _)
      | (with_reducible exact LeO.refl _)
      | (with_reducible exact LeO.none _)
      | (with_reducible refine LeO.ite ?_ ?_)
      | (with_reducible refine LeO.bind ?_ (fun _ => ?_))
      | exact ih0 _ _
      | exact ih1 _ _
      | exact LeO.none _
      | refine LeO.ite ?_ ?_
      | refine LeO.bind ?_ (fun _ => ?_)
theorem turncockref1_Name.mono : ∀ a0 k, LeO (turncockref1_Name.f k a0) (turncockref1_Name.f (k + 1) a0) := by
  intro a0 k
  obtain ⟨ih0, ih1⟩ := turncockref1_Name.mono_l k
  unfold turncockref1_Name.f
  repeat' first
      | (with_reducible exact ih0 _ _)
      | (with_reducible exact ih1 _ _)
      | (with_reducible exact LeO.refl _)
      | (with_reducible exact LeO.none _)
      | (with_reducible refine LeO.ite ?_ ?_)
      | (with_reducible refine LeO.bind ?_ (fun _ => ?_))
      | exact ih0 _ _
      | exact ih1 _ _
      | exact LeO.none _
      | refine LeO.ite ?_ ?_
      | refine LeO.bind ?_ (fun _ => ?_)
set_option maxHeartbeats 8000000 in
set_option maxRecDepth 100000 in
theorem turncockref1_Name.calls (k : Nat) (a0 : ByteArray) (r : Bool) (w : World) (h : turncockref1_Name.f k a0 = some r) :
    Calls Tryd.prog 26 #[.string a0] w fun e w' => e = .returned (.bool r) ∧ Drawn0 w w' := by
  have H : (if (a0.size : Int) < 1 then (turncockref1_Name.j0 k a0 true) else (turncockref1_Name.j0 k a0 (decide ((a0.size : Int) > 64)))) = some r := h
  clear h
  have HC2 := Aside0.mk H
  clear H
  go_enter Tryd.func26, Tryd.ntmps26
  go_upto_region 1 with (fail)
  go_cut [11] (fun v11 wc => ∃ (kq : Nat) (x11_1 : Bool), v11 = .bool x11_1 ∧ Aside0 (turncockref1_Name.j0 kq a0 x11_1 = some r) ∧ Aside0 (kq ≤ k) ∧ Drawn0 w wc)
  case first =>
    have H := HC2.out
    clear HC2
    by_cases c3 : (a0.size : Int) < 1
    · rw [if_pos c3] at H
      have c3b0 : decide ((a0.size : Int) < 1) = true := decide_eq_true c3
      have c3b1 : decide (a0.size < 1) = true := decide_eq_true (by omega)
      clear c3
      (first | rw [c3b0] | (simp only [i64_w, i32_w]; rw [c3b0]) | skip)
      have H' := Aside0.mk H
      clear H
      go_wp2
      go_meet
      case rel => exact ⟨_, (true), (by first | rfl | (simp; done) | (simp [*]; done)), H', ⟨by first | omega | exact Nat.le_refl _⟩, by repeat (first | exact Drawn0.refl _ | apply Drawn0.step)⟩
    · rw [if_neg c3] at H
      have c3b0 : decide ((a0.size : Int) < 1) = false := decide_eq_false c3
      have c3b1 : decide (a0.size < 1) = false := decide_eq_false (by omega)
      clear c3
      (first | rw [c3b0] | (simp only [i64_w, i32_w]; rw [c3b0]) | skip)
      have H' := Aside0.mk H
      clear H
      go_wp2
      go_meet
      case rel => exact ⟨_, (decide ((a0.size : Int) > 64)), (by first | rfl | (simp; done) | (simp [*]; done)), H', ⟨by first | omega | exact Nat.le_refl _⟩, by repeat (first | exact Drawn0.refl _ | apply Drawn0.step)⟩
  case rest =>
    clear HC2
    try clear c2
    try clear p2
    try clear c3
    try clear c3b0
    try clear c3b1
    obtain ⟨kq, x11_1, rfl, HA, HJ1, ⟨mc1, rfl⟩⟩ := hcut
    cases kq with
    | zero => exact absurd HA.out (by simp [turncockref1_Name.j0])
    | succ kj1 =>
      have H := HA.out
      clear HA
      simp only [turncockref1_Name.j0] at H
      by_cases c4 : x11_1 = true
      · subst c4
        have H1 : (some false) = some r := by rw [if_pos rfl] at H; exact H
        clear H
        have H := H1
        clear H1
        obtain rfl := Option.some.inj H
        go_wp2
        go_ret
        exact ⟨by first | rfl | (simp; done) | (simp [*]; done), by repeat (first | exact Drawn0.refl _ | apply Drawn0.step)⟩
      · replace c4 := Bool.eq_false_iff.mpr c4
        subst c4
        have H1 : (turncockref1_Name.l0 kj1 a0 0) = some r := by rw [if_neg (show ¬ (false = true) by decide)] at H; exact H
        clear H
        have H := H1
        clear H1
        have H' := Aside0.mk H
        clear H
        go_wp2
        go_loopg [3] kj1 (fun kq v3 w' => ∃ (x3_2 : Int), v3 = .int .i64 x3_2 ∧ Aside0 (turncockref1_Name.l0 kq a0 x3_2 = some r) ∧ Aside0 (kq ≤ kj1) ∧ Drawn0 w w')
        case atStart => exact ⟨(0), (by first | rfl | (simp; done) | (simp [*]; done)), H', ⟨Nat.le_refl _⟩, by repeat (first | exact Drawn0.refl _ | apply Drawn0.step)⟩
        case round =>
          clear H'
          try clear c1
          try clear c2
          try clear p2
          try clear c3
          try clear c3b0
          try clear c3b1
          try clear c4
          try clear p2
          obtain ⟨x3_2, rfl, HA, HK2, ⟨m2, rfl⟩⟩ := hrel
          cases gk with
          | zero => exact absurd HA.out (by simp [turncockref1_Name.l0])
          | succ k2 =>
            have H := HA.out
            clear HA
            simp only [turncockref1_Name.l0] at H
            by_cases c5 : x3_2 < (a0.size : Int)
            · rw [if_pos c5] at H
              have c5b0 : decide (x3_2 < (a0.size : Int)) = true := decide_eq_true c5
              clear c5
              by_cases c6 : 0 ≤ x3_2
              · rw [if_pos c6] at H
                have c6b0 : decide (0 ≤ x3_2) = true := decide_eq_true c6
                clear c6
                by_cases c8 : (bt a0 x3_2) < 33
                · rw [if_pos c8] at H
                  have c8b0 : decide ((bt a0 x3_2) < 33) = true := decide_eq_true c8
                  clear c8
                  obtain rfl := Option.some.inj H
                  have p7 : 0 ≤ (x3_2 : Int) := of_decide_eq_true (by first | (with_reducible assumption) | assumption)
                  have q7 : x3_2 < (a0.size : Int) := of_decide_eq_true (by first | (with_reducible assumption) | assumption)
                  have hx7 := bt_at a0 x3_2
                  replace p7 := eq_true p7
                  replace q7 := eq_true q7
                  go_wp2
                  go_ret
                  exact ⟨by first | rfl | (simp; done) | (simp [*]; done), by repeat (first | exact Drawn0.refl _ | apply Drawn0.step)⟩
                · rw [if_neg c8] at H
                  have c8b0 : decide ((bt a0 x3_2) < 33) = false := decide_eq_false c8
                  clear c8
                  by_cases c10 : (bt a0 x3_2) > 126
                  · rw [if_pos c10] at H
                    have c10b0 : decide (126 < (bt a0 x3_2)) = true := decide_eq_true c10
                    clear c10
                    obtain rfl := Option.some.inj H
                    have p7 : 0 ≤ (x3_2 : Int) := of_decide_eq_true (by first | (with_reducible assumption) | assumption)
                    have q7 : x3_2 < (a0.size : Int) := of_decide_eq_true (by first | (with_reducible assumption) | assumption)
                    have hx7 := bt_at a0 x3_2
                    replace p7 := eq_true p7
                    replace q7 := eq_true q7
                    have p9 : 0 ≤ (x3_2 : Int) := of_decide_eq_true (by first | (with_reducible assumption) | assumption)
                    have q9 : x3_2 < (a0.size : Int) := of_decide_eq_true (by first | (with_reducible assumption) | assumption)
                    have hx9 := bt_at a0 x3_2
                    replace p9 := eq_true p9
                    replace q9 := eq_true q9
                    go_wp2
                    go_ret
                    exact ⟨by first | rfl | (simp; done) | (simp [*]; done), by repeat (first | exact Drawn0.refl _ | apply Drawn0.step)⟩
                  · rw [if_neg c10] at H
                    have c10b0 : decide (126 < (bt a0 x3_2)) = false := decide_eq_false c10
                    clear c10
                    have H' := Aside0.mk H
                    clear H
                    have p7 : 0 ≤ (x3_2 : Int) := of_decide_eq_true (by first | (with_reducible assumption) | assumption)
                    have q7 : x3_2 < (a0.size : Int) := of_decide_eq_true (by first | (with_reducible assumption) | assumption)
                    have hx7 := bt_at a0 x3_2
                    replace p7 := eq_true p7
                    replace q7 := eq_true q7
                    have p9 : 0 ≤ (x3_2 : Int) := of_decide_eq_true (by first | (with_reducible assumption) | assumption)
                    have q9 : x3_2 < (a0.size : Int) := of_decide_eq_true (by first | (with_reducible assumption) | assumption)
                    have hx9 := bt_at a0 x3_2
                    replace p9 := eq_true p9
                    replace q9 := eq_true q9
                    go_wp2
                    go_roundg k2
                    case measure => have := HJ1.out; have := HK2.out; omega
                    case rel => exact ⟨(wrap64 (x3_2 + 1)), (by first | rfl | (simp; done) | (simp [*]; done)), H', ⟨by have := HJ1.out; have := HK2.out; omega⟩, by repeat (first | exact Drawn0.refl _ | apply Drawn0.step)⟩
              · rw [if_neg c6] at H
                exact absurd H (by simp)
            · rw [if_neg c5] at H
              have c5b0 : decide (x3_2 < (a0.size : Int)) = false := decide_eq_false c5
              clear c5
              obtain rfl := Option.some.inj H
              go_wp2
              go_ret
              exact ⟨by first | rfl | (simp; done) | (simp [*]; done), by repeat (first | exact Drawn0.refl _ | apply Drawn0.step)⟩

/-! ### turncockref1_CheckDesc: function 17 -/
mutual
def turncockref1_CheckDesc.j0 : Nat → Bool → List (S47) → Option (Bool)
  | 0, _, _ => none
  | k + 1, x13, x234000 => if x13 = true then (some false) else (turncockref1_CheckDesc.l0 k 0 x234000)
def turncockref1_CheckDesc.l0 : Nat → Int → List (S47) → Option (Bool)
  | 0, _, _ => none
  | k + 1, x3, x234000 => if x3 < (x234000.length : Int) then (if 0 ≤ x3 then ((turncockref1_Name.f k ((rd_T47 x234000 x3).f0)).bind fun t235 => (if t235 = true then (if (((rd_T47 x234000 x3).f1).size : Int) > 128 then (some false) else (turncockref1_CheckDesc.l0 k (wrap64 (x3 + 1)) x234000)) else (some false))) else (none)) else (some true)
end
def turncockref1_CheckDesc.f (k : Nat) (l0_0 : List (S47)) : Option (Bool) := if (l0_0.length : Int) < 1 then (turncockref1_CheckDesc.j0 k true l0_0) else (turncockref1_CheckDesc.j0 k (decide ((l0_0.length : Int) > 8)) l0_0)
theorem turncockref1_CheckDesc.mono_l : ∀ k, (∀ y0 y1, LeO (turncockref1_CheckDesc.j0 k y0 y1) (turncockref1_CheckDesc.j0 (k + 1) y0 y1)) ∧ (∀ y0 y1, LeO (turncockref1_CheckDesc.l0 k y0 y1) (turncockref1_CheckDesc.l0 (k + 1) y0 y1))
  | 0 => ⟨fun _ _ r h => by simp [turncockref1_CheckDesc.j0] at h, fun _ _ r h => by simp [turncockref1_CheckDesc.l0] at h⟩
  | k + 1 => by
    obtain ⟨ih0, ih1⟩ := turncockref1_CheckDesc.mono_l k
    refine ⟨?_, ?_⟩
    · intro y0 y1
      unfold turncockref1_CheckDesc.j0
      repeat' first
      | (with_reducible exact ih0 _ _)
      | (with_reducible exact ih1 _ _)
      | (with_reducible exact turncockref1_Name.mono _ _)
      | (with_reducible exact LeO.refl _)
      | (with_reducible exact LeO.none _)
      | (with_reducible refine LeO.ite ?_ ?_)
      | (with_reducible refine LeO.bind ?_ (fun _ => ?_))
      | exact ih0 _ _
      | exact ih1 _ _
      | exact turncockref1_Name.mono _ _
      | exact LeO.none _
      | refine LeO.ite ?_ ?_
      | refine LeO.bind ?_ (fun _ => ?_)
    · intro y0 y1
      unfold turncockref1_CheckDesc.l0
      repeat' first
      | (with_reducible exact ih0 _ _)
      | (with_reducible exact ih1 _ _)
      | (with_reducible exact turncockref1_Name.mono _ _)
      | (with_reducible exact LeO.refl _)
      | (with_reducible exact LeO.none _)
      | (with_reducible refine LeO.ite ?_ ?_)
      | (with_reducible refine LeO.bind ?_ (fun _ => ?_))
      | exact ih0 _ _
      | exact ih1 _ _
      | exact turncockref1_Name.mono _ _
      | exact LeO.none _
      | refine LeO.ite ?_ ?_
      | refine LeO.bind ?_ (fun _ => ?_)
theorem turncockref1_CheckDesc.mono : ∀ a0 k, LeO (turncockref1_CheckDesc.f k a0) (turncockref1_CheckDesc.f (k + 1) a0) := by
  intro a0 k
  obtain ⟨ih0, ih1⟩ := turncockref1_CheckDesc.mono_l k
  unfold turncockref1_CheckDesc.f
  repeat' first
      | (with_reducible exact ih0 _ _)
      | (with_reducible exact ih1 _ _)
      | (with_reducible exact turncockref1_Name.mono _ _)
      | (with_reducible exact LeO.refl _)
      | (with_reducible exact LeO.none _)
      | (with_reducible refine LeO.ite ?_ ?_)
      | (with_reducible refine LeO.bind ?_ (fun _ => ?_))
      | exact ih0 _ _
      | exact ih1 _ _
      | exact turncockref1_Name.mono _ _
      | exact LeO.none _
      | refine LeO.ite ?_ ?_
      | refine LeO.bind ?_ (fun _ => ?_)
set_option maxHeartbeats 8000000 in
set_option maxRecDepth 100000 in
theorem turncockref1_CheckDesc.calls (k : Nat) (A0_0 : Option Addr) (c0_0 : Nat) (l0_0 : List (S47)) (r : Bool) (w : World) (hr0_0 : Kd.C k47 w A0_0 l0_0.length l0_0) (hc0_0 : l0_0.length ≤ c0_0) (h : turncockref1_CheckDesc.f k l0_0 = some r) :
    Calls Tryd.prog 17 #[.agg #[.slice A0_0 l0_0.length c0_0]] w fun e w' => e = .returned (.bool r) ∧ Below w.heap.size w w' := by
  have hu24 := Tryd.underlying24
  have HR0_0 := Aside0.mk hr0_0
  have HC0_0 := Aside0.mk hc0_0
  clear hr0_0 hc0_0
  have HB := Aside0.mk (Below.refl w.heap.size w)
  have H : (if (l0_0.length : Int) < 1 then (turncockref1_CheckDesc.j0 k true l0_0) else (turncockref1_CheckDesc.j0 k (decide ((l0_0.length : Int) > 8)) l0_0)) = some r := h
  clear h
  have HC2 := Aside0.mk H
  clear H
  go_enter Tryd.func17, Tryd.ntmps17
  go_upto_region 1 with (first | ((with_reducible refine gate_dst (N := 1) rfl ?_); (try (refine gate_guard (by rfl) ?_; dsimp only)); refine box_event ?hg (N := 1) ?hd (cs := #[.slice A0_0 l0_0.length c0_0]) (t := 24) ?hr ?_; (case hd => rfl); (case hg => rfl); (case hr => first | (go_simp; done) | (go_simp; rfl)); intro gb233 hg w3 hbox hb; have n0_ := Aside0.mk (below_step (by repeat (first | (with_reducible first | exact HB.out | apply below_alloc | apply pw_below_drewN | apply below_drew1) | exact HB.out)) hb); have n1_ := Aside0.mk (hbox); have n2_ := Aside0.mk ((by rw [hg]; exact (below_size (by repeat (first | (with_reducible first | exact HB.out | apply below_alloc | apply pw_below_drewN | apply below_drew1) | exact HB.out))) : w.heap.size ≤ gb233)); have n3_ := Aside0.mk ((by rw [hg]; exact (below_size (by repeat (first | (with_reducible first | exact HB.out | apply below_alloc | apply pw_below_drewN | apply below_drew1) | exact HB.out))) : w.heap.size ≤ gb233)); clear HB; have HB := n0_; have BK233 := n1_; have GW233 := n2_; have GE233 := n3_; clear n0_ n1_ n2_ n3_; clear hb hbox hg))
  (try simp only [Act.put, List.setIfInBounds_toArray, List.set_cons_zero, List.set_cons_succ])
  go_cut [13] (fun v13 wc => ∃ (kq : Nat) (x13_1 : Bool), v13 = .bool x13_1 ∧ Aside0 (turncockref1_CheckDesc.j0 kq x13_1 l0_0 = some r) ∧ Aside0 (kq ≤ k) ∧ Aside0 (wc.heap[gb233]? = some (.cells #[(.slice A0_0 l0_0.length c0_0)] 24 (0, 0))) ∧ Aside0 (Below w.heap.size w wc))
  case first =>
    have H := HC2.out
    clear HC2
    by_cases c4 : (l0_0.length : Int) < 1
    · rw [if_pos c4] at H
      have c4b0 : decide ((l0_0.length : Int) < 1) = true := decide_eq_true c4
      have c4b1 : decide (l0_0.length < 1) = true := decide_eq_true (by omega)
      clear c4
      (first | rw [c4b0] | (simp only [i64_w, i32_w]; rw [c4b0]) | skip)
      have H' := Aside0.mk H
      clear H
      have hcz5_0 : w3.cell? ⟨gb233, 0, none⟩ = some (.slice A0_0 l0_0.length c0_0) := (blk_cell BK233.out 0).trans rfl
      have hfz5_0 := blk_frozen BK233.out 0
      go_wp2
      go_meet
      case rel => exact ⟨_, (true), (by first | rfl | (simp; done) | (simp [*]; done)), H', ⟨by first | omega | exact Nat.le_refl _⟩, ⟨by (with_reducible repeat (first | refine blk_drewN ?_ _ | refine blk_drew ?_ | refine blk_alloc ?_ _)); exact BK233.out⟩, ⟨by repeat (first | (with_reducible first | exact HB.out | apply below_alloc | apply pw_below_drewN | apply below_drew1 | refine below_set ?_ GE233.out) | exact HB.out)⟩⟩
    · rw [if_neg c4] at H
      have c4b0 : decide ((l0_0.length : Int) < 1) = false := decide_eq_false c4
      have c4b1 : decide (l0_0.length < 1) = false := decide_eq_false (by omega)
      clear c4
      (first | rw [c4b0] | (simp only [i64_w, i32_w]; rw [c4b0]) | skip)
      have H' := Aside0.mk H
      clear H
      have hcz6_0 : w3.cell? ⟨gb233, 0, none⟩ = some (.slice A0_0 l0_0.length c0_0) := (blk_cell BK233.out 0).trans rfl
      have hfz6_0 := blk_frozen BK233.out 0
      go_wp2
      go_meet
      case rel => exact ⟨_, (decide ((l0_0.length : Int) > 8)), (by first | rfl | (simp; done) | (simp [*]; done)), H', ⟨by first | omega | exact Nat.le_refl _⟩, ⟨by (with_reducible repeat (first | refine blk_drewN ?_ _ | refine blk_drew ?_ | refine blk_alloc ?_ _)); exact BK233.out⟩, ⟨by repeat (first | (with_reducible first | exact HB.out | apply below_alloc | apply pw_below_drewN | apply below_drew1 | refine below_set ?_ GE233.out) | exact HB.out)⟩⟩
  case rest =>
    clear HC2
    try clear c1
    try clear p2
    try clear c4
    try clear c4b0
    try clear c4b1
    try clear hcz5_0
    try clear hcz6_0
    try clear hfz5_0
    try clear hfz6_0
    obtain ⟨kq, x13_1, rfl, HA, HJ1, BK233, HB⟩ := hcut
    cases kq with
    | zero => exact absurd HA.out (by simp [turncockref1_CheckDesc.j0])
    | succ kj1 =>
      have H := HA.out
      clear HA
      simp only [turncockref1_CheckDesc.j0] at H
      by_cases c7 : x13_1 = true
      · subst c7
        have H1 : (some false) = some r := by rw [if_pos rfl] at H; exact H
        clear H
        have H := H1
        clear H1
        obtain rfl := Option.some.inj H
        go_wp2
        go_ret
        exact ⟨by first | rfl | (simp [errW_none, errW_some] <;> rfl) | (simp [*, errW_none, errW_some] <;> rfl), by repeat (first | (with_reducible first | exact HB.out | apply below_alloc | apply pw_below_drewN | apply below_drew1 | refine below_set ?_ GE233.out) | exact HB.out)⟩
      · replace c7 := Bool.eq_false_iff.mpr c7
        subst c7
        have H1 : (turncockref1_CheckDesc.l0 kj1 0 l0_0) = some r := by rw [if_neg (show ¬ (false = true) by decide)] at H; exact H
        clear H
        have H := H1
        clear H1
        have H' := Aside0.mk H
        clear H
        go_wp2
        go_loopg [3] kj1 (fun kq v3 w' => ∃ (x3_2 : Int), v3 = .int .i64 x3_2 ∧ Aside0 (turncockref1_CheckDesc.l0 kq x3_2 l0_0 = some r) ∧ Aside0 (kq ≤ kj1) ∧ Aside0 (w'.heap[gb233]? = some (.cells #[(.slice A0_0 l0_0.length c0_0)] 24 (0, 0))) ∧ Aside0 (Below w.heap.size w w'))
        case atStart => exact ⟨(0), (by first | rfl | (simp; done) | (simp [*]; done)), H', ⟨Nat.le_refl _⟩, ⟨by (with_reducible repeat (first | refine blk_drewN ?_ _ | refine blk_drew ?_ | refine blk_alloc ?_ _)); exact BK233.out⟩, ⟨by repeat (first | (with_reducible first | exact HB.out | apply below_alloc | apply pw_below_drewN | apply below_drew1 | refine below_set ?_ GE233.out) | exact HB.out)⟩⟩
        case round =>
          clear H'
          try clear c1
          try clear p2
          try clear c4
          try clear c4b0
          try clear c4b1
          try clear c7
          try clear hcz5_0
          try clear hcz6_0
          try clear hfz5_0
          try clear hfz6_0
          try clear p2
          obtain ⟨x3_2, rfl, HA, HK2, BK233, HB⟩ := hrel
          cases gk with
          | zero => exact absurd HA.out (by simp [turncockref1_CheckDesc.l0])
          | succ k2 =>
            have H := HA.out
            clear HA
            simp only [turncockref1_CheckDesc.l0] at H
            by_cases c8 : x3_2 < (l0_0.length : Int)
            · rw [if_pos c8] at H
              have c8b0 : decide (x3_2 < (l0_0.length : Int)) = true := decide_eq_true c8
              clear c8
              by_cases c9 : 0 ≤ x3_2
              · rw [if_pos c9] at H
                have c9b0 : decide (0 ≤ x3_2) = true := decide_eq_true c9
                clear c9
                replace H := Option.bind_eq_some_iff.mp H
                obtain ⟨t235, A100, H⟩ := H
                replace H : (if t235 = true then (if (((rd_T47 l0_0 x3_2).f1).size : Int) > 128 then (some false) else (turncockref1_CheckDesc.l0 k2 (wrap64 (x3_2 + 1)) l0_0)) else (some false)) = some r := H
                have A10 := Aside0.mk A100
                clear A100
                by_cases c11 : t235 = true
                · subst c11
                  have H1 : (if (((rd_T47 l0_0 x3_2).f1).size : Int) > 128 then (some false) else (turncockref1_CheckDesc.l0 k2 (wrap64 (x3_2 + 1)) l0_0)) = some r := by rw [if_pos rfl] at H; exact H
                  clear H
                  have H := H1
                  clear H1
                  by_cases c12 : (((rd_T47 l0_0 x3_2).f1).size : Int) > 128
                  · rw [if_pos c12] at H
                    have c12b0 : decide (128 < (((rd_T47 l0_0 x3_2).f1).size : Int)) = true := decide_eq_true c12
                    have c12b1 : decide (128 < ((rd_T47 l0_0 x3_2).f1).size) = true := decide_eq_true (by omega)
                    clear c12
                    obtain rfl := Option.some.inj H
                    have hcz13_0 : wr.cell? ⟨gb233, 0, none⟩ = some (.slice A0_0 l0_0.length c0_0) := (blk_cell BK233.out 0).trans rfl
                    have hfz13_0 := blk_frozen BK233.out 0
                    have p234 : 0 ≤ (x3_2 : Int) := of_decide_eq_true (by first | (with_reducible assumption) | assumption)
                    have q234 : x3_2 < (l0_0.length : Int) := of_decide_eq_true (by first | (with_reducible assumption) | assumption)
                    obtain ⟨ad234, e234, hx234_0, hx234_1⟩ := at_T47 HR0_0.out x3_2 p234 q234
                    cases e234
                    replace hx234_0 := (HB.out.cell (World.block_lt_of_cell? w _ hx234_0)).trans hx234_0
                    replace hx234_1 := (HB.out.cell (World.block_lt_of_cell? w _ hx234_1)).trans hx234_1
                    replace p234 := eq_true p234
                    replace q234 := eq_true q234
                    go_wp2_with (first | ((with_reducible refine gate_callee (f := 26) rfl ?_); refine goesL_ (some 27) rfl rfl Tryd.func26 (by kernel_rfl) rfl #[.string ((rd_T47 l0_0 x3_2).f0)] rfl (by (try simp only [List.map_toArray, List.map_cons, List.map_nil]); first | done | rfl | (simp only [List.length_drop, List.length_take]; rfl)) ?_; (with_reducible refine (turncockref1_Name.calls k2 ((rd_T47 l0_0 x3_2).f0) true _ A10.out).mono ?_); rintro e w' ⟨rfl, ⟨nd, rfl⟩⟩; refine ⟨_, rfl, ?_⟩; have p236 : 0 ≤ (x3_2 : Int) := of_decide_eq_true (by first | (with_reducible assumption) | assumption); have q236 : x3_2 < (l0_0.length : Int) := of_decide_eq_true (by first | (with_reducible assumption) | assumption); obtain ⟨ad236, e236, hx236_0, hx236_1⟩ := at_T47 HR0_0.out x3_2 p236 q236; obtain rfl : ad234 = ad236 := (by injection e236); replace hx236_0 := (HB.out.cell (World.block_lt_of_cell? w _ hx236_0)).trans hx236_0; replace hx236_1 := (HB.out.cell (World.block_lt_of_cell? w _ hx236_1)).trans hx236_1; replace p236 := eq_true p236; replace q236 := eq_true q236))
                    go_ret
                    exact ⟨by first | rfl | (simp [errW_none, errW_some] <;> rfl) | (simp [*, errW_none, errW_some] <;> rfl), by repeat (first | (with_reducible first | exact HB.out | apply below_alloc | apply pw_below_drewN | apply below_drew1 | refine below_set ?_ GE233.out) | exact HB.out)⟩
                  · rw [if_neg c12] at H
                    have c12b0 : decide (128 < (((rd_T47 l0_0 x3_2).f1).size : Int)) = false := decide_eq_false c12
                    have c12b1 : decide (128 < ((rd_T47 l0_0 x3_2).f1).size) = false := decide_eq_false (by omega)
                    clear c12
                    have H' := Aside0.mk H
                    clear H
                    have hcz14_0 : wr.cell? ⟨gb233, 0, none⟩ = some (.slice A0_0 l0_0.length c0_0) := (blk_cell BK233.out 0).trans rfl
                    have hfz14_0 := blk_frozen BK233.out 0
                    have p234 : 0 ≤ (x3_2 : Int) := of_decide_eq_true (by first | (with_reducible assumption) | assumption)
                    have q234 : x3_2 < (l0_0.length : Int) := of_decide_eq_true (by first | (with_reducible assumption) | assumption)
                    obtain ⟨ad234, e234, hx234_0, hx234_1⟩ := at_T47 HR0_0.out x3_2 p234 q234
                    cases e234
                    replace hx234_0 := (HB.out.cell (World.block_lt_of_cell? w _ hx234_0)).trans hx234_0
                    replace hx234_1 := (HB.out.cell (World.block_lt_of_cell? w _ hx234_1)).trans hx234_1
                    replace p234 := eq_true p234
                    replace q234 := eq_true q234
                    go_wp2_with (first | ((with_reducible refine gate_callee (f := 26) rfl ?_); refine goesL_ (some 27) rfl rfl Tryd.func26 (by kernel_rfl) rfl #[.string ((rd_T47 l0_0 x3_2).f0)] rfl (by (try simp only [List.map_toArray, List.map_cons, List.map_nil]); first | done | rfl | (simp only [List.length_drop, List.length_take]; rfl)) ?_; (with_reducible refine (turncockref1_Name.calls k2 ((rd_T47 l0_0 x3_2).f0) true _ A10.out).mono ?_); rintro e w' ⟨rfl, ⟨nd, rfl⟩⟩; refine ⟨_, rfl, ?_⟩; have p236 : 0 ≤ (x3_2 : Int) := of_decide_eq_true (by first | (with_reducible assumption) | assumption); have q236 : x3_2 < (l0_0.length : Int) := of_decide_eq_true (by first | (with_reducible assumption) | assumption); obtain ⟨ad236, e236, hx236_0, hx236_1⟩ := at_T47 HR0_0.out x3_2 p236 q236; obtain rfl : ad234 = ad236 := (by injection e236); replace hx236_0 := (HB.out.cell (World.block_lt_of_cell? w _ hx236_0)).trans hx236_0; replace hx236_1 := (HB.out.cell (World.block_lt_of_cell? w _ hx236_1)).trans hx236_1; replace p236 := eq_true p236; replace q236 := eq_true q236))
                    go_roundg k2
                    case measure => have := HJ1.out; have := HK2.out; omega
                    case rel => exact ⟨(wrap64 (x3_2 + 1)), (by first | rfl | (simp; done) | (simp [*]; done)), H', ⟨by have := HJ1.out; have := HK2.out; omega⟩, ⟨by (with_reducible repeat (first | refine blk_drewN ?_ _ | refine blk_drew ?_ | refine blk_alloc ?_ _)); exact BK233.out⟩, ⟨by repeat (first | (with_reducible first | exact HB.out | apply below_alloc | apply pw_below_drewN | apply below_drew1 | refine below_set ?_ GE233.out) | exact HB.out)⟩⟩
                · replace c11 := Bool.eq_false_iff.mpr c11
                  subst c11
                  have H1 : (some false) = some r := by rw [if_neg (show ¬ (false = true) by decide)] at H; exact H
                  clear H
                  have H := H1
                  clear H1
                  obtain rfl := Option.some.inj H
                  have hcz15_0 : wr.cell? ⟨gb233, 0, none⟩ = some (.slice A0_0 l0_0.length c0_0) := (blk_cell BK233.out 0).trans rfl
                  have hfz15_0 := blk_frozen BK233.out 0
                  have p234 : 0 ≤ (x3_2 : Int) := of_decide_eq_true (by first | (with_reducible assumption) | assumption)
                  have q234 : x3_2 < (l0_0.length : Int) := of_decide_eq_true (by first | (with_reducible assumption) | assumption)
                  obtain ⟨ad234, e234, hx234_0, hx234_1⟩ := at_T47 HR0_0.out x3_2 p234 q234
                  cases e234
                  replace hx234_0 := (HB.out.cell (World.block_lt_of_cell? w _ hx234_0)).trans hx234_0
                  replace hx234_1 := (HB.out.cell (World.block_lt_of_cell? w _ hx234_1)).trans hx234_1
                  replace p234 := eq_true p234
                  replace q234 := eq_true q234
                  go_wp2_with (first | ((with_reducible refine gate_callee (f := 26) rfl ?_); refine goesL_ (some 27) rfl rfl Tryd.func26 (by kernel_rfl) rfl #[.string ((rd_T47 l0_0 x3_2).f0)] rfl (by (try simp only [List.map_toArray, List.map_cons, List.map_nil]); first | done | rfl | (simp only [List.length_drop, List.length_take]; rfl)) ?_; (with_reducible refine (turncockref1_Name.calls k2 ((rd_T47 l0_0 x3_2).f0) false _ A10.out).mono ?_); rintro e w' ⟨rfl, ⟨nd, rfl⟩⟩; refine ⟨_, rfl, ?_⟩))
                  go_ret
                  exact ⟨by first | rfl | (simp [errW_none, errW_some] <;> rfl) | (simp [*, errW_none, errW_some] <;> rfl), by repeat (first | (with_reducible first | exact HB.out | apply below_alloc | apply pw_below_drewN | apply below_drew1 | refine below_set ?_ GE233.out) | exact HB.out)⟩
              · rw [if_neg c9] at H
                exact absurd H (by simp)
            · rw [if_neg c8] at H
              have c8b0 : decide (x3_2 < (l0_0.length : Int)) = false := decide_eq_false c8
              clear c8
              obtain rfl := Option.some.inj H
              have hcz16_0 : wr.cell? ⟨gb233, 0, none⟩ = some (.slice A0_0 l0_0.length c0_0) := (blk_cell BK233.out 0).trans rfl
              have hfz16_0 := blk_frozen BK233.out 0
              go_wp2
              go_ret
              exact ⟨by first | rfl | (simp [errW_none, errW_some] <;> rfl) | (simp [*, errW_none, errW_some] <;> rfl), by repeat (first | (with_reducible first | exact HB.out | apply below_alloc | apply pw_below_drewN | apply below_drew1 | refine below_set ?_ GE233.out) | exact HB.out)⟩

/-! ### turncockref1_letter: function 47 -/
def turncockref1_letter.f (a0 : Int) : Option (Bool) := if a0 ≥ 97 then (if a0 ≤ 122 then (some true) else (if a0 ≥ 65 then (some (decide (a0 ≤ 90))) else (some false))) else (if a0 ≥ 65 then (some (decide (a0 ≤ 90))) else (some false))
set_option maxHeartbeats 8000000 in
set_option maxRecDepth 100000 in
theorem turncockref1_letter.calls (a0 : Int) (r : Bool) (w : World) (h : turncockref1_letter.f a0 = some r) :
    Calls Tryd.prog 47 #[.int .u8 a0] w fun e w' => e = .returned (.bool r) ∧ Drawn0 w w' := by
  have H : (if a0 ≥ 97 then (if a0 ≤ 122 then (some true) else (if a0 ≥ 65 then (some (decide (a0 ≤ 90))) else (some false))) else (if a0 ≥ 65 then (some (decide (a0 ≤ 90))) else (some false))) = some r := h
  clear h
  by_cases c2 : a0 ≥ 97
  · rw [if_pos c2] at H
    have c2b0 : decide (97 ≤ a0) = true := decide_eq_true c2
    clear c2
    by_cases c3 : a0 ≤ 122
    · rw [if_pos c3] at H
      have c3b0 : decide (a0 ≤ 122) = true := decide_eq_true c3
      clear c3
      obtain rfl := Option.some.inj H
      go_enter Tryd.func47, Tryd.ntmps47
      go_wp2
      go_ret
      exact ⟨by first | rfl | (simp; done) | (simp [*]; done), by repeat (first | exact Drawn0.refl _ | apply Drawn0.step)⟩
    · rw [if_neg c3] at H
      have c3b0 : decide (a0 ≤ 122) = false := decide_eq_false c3
      clear c3
      by_cases c4 : a0 ≥ 65
      · rw [if_pos c4] at H
        have c4b0 : decide (65 ≤ a0) = true := decide_eq_true c4
        clear c4
        obtain rfl := Option.some.inj H
        go_enter Tryd.func47, Tryd.ntmps47
        go_wp2
        go_ret
        exact ⟨by first | rfl | (simp; done) | (simp [*]; done), by repeat (first | exact Drawn0.refl _ | apply Drawn0.step)⟩
      · rw [if_neg c4] at H
        have c4b0 : decide (65 ≤ a0) = false := decide_eq_false c4
        clear c4
        obtain rfl := Option.some.inj H
        go_enter Tryd.func47, Tryd.ntmps47
        go_wp2
        go_ret
        exact ⟨by first | rfl | (simp; done) | (simp [*]; done), by repeat (first | exact Drawn0.refl _ | apply Drawn0.step)⟩
  · rw [if_neg c2] at H
    have c2b0 : decide (97 ≤ a0) = false := decide_eq_false c2
    clear c2
    by_cases c5 : a0 ≥ 65
    · rw [if_pos c5] at H
      have c5b0 : decide (65 ≤ a0) = true := decide_eq_true c5
      clear c5
      obtain rfl := Option.some.inj H
      go_enter Tryd.func47, Tryd.ntmps47
      go_wp2
      go_ret
      exact ⟨by first | rfl | (simp; done) | (simp [*]; done), by repeat (first | exact Drawn0.refl _ | apply Drawn0.step)⟩
    · rw [if_neg c5] at H
      have c5b0 : decide (65 ≤ a0) = false := decide_eq_false c5
      clear c5
      obtain rfl := Option.some.inj H
      go_enter Tryd.func47, Tryd.ntmps47
      go_wp2
      go_ret
      exact ⟨by first | rfl | (simp; done) | (simp [*]; done), by repeat (first | exact Drawn0.refl _ | apply Drawn0.step)⟩

/-! ### turncockref1_digit: function 48 -/
def turncockref1_digit.f (a0 : Int) : Option (Bool) := if a0 ≥ 48 then (some (decide (a0 ≤ 57))) else (some false)
set_option maxHeartbeats 8000000 in
set_option maxRecDepth 100000 in
theorem turncockref1_digit.calls (a0 : Int) (r : Bool) (w : World) (h : turncockref1_digit.f a0 = some r) :
    Calls Tryd.prog 48 #[.int .u8 a0] w fun e w' => e = .returned (.bool r) ∧ Drawn0 w w' := by
  have H : (if a0 ≥ 48 then (some (decide (a0 ≤ 57))) else (some false)) = some r := h
  clear h
  by_cases c2 : a0 ≥ 48
  · rw [if_pos c2] at H
    have c2b0 : decide (48 ≤ a0) = true := decide_eq_true c2
    clear c2
    obtain rfl := Option.some.inj H
    go_enter Tryd.func48, Tryd.ntmps48
    go_wp2
    go_ret
    exact ⟨by first | rfl | (simp; done) | (simp [*]; done), by repeat (first | exact Drawn0.refl _ | apply Drawn0.step)⟩
  · rw [if_neg c2] at H
    have c2b0 : decide (48 ≤ a0) = false := decide_eq_false c2
    clear c2
    obtain rfl := Option.some.inj H
    go_enter Tryd.func48, Tryd.ntmps48
    go_wp2
    go_ret
    exact ⟨by first | rfl | (simp; done) | (simp [*]; done), by repeat (first | exact Drawn0.refl _ | apply Drawn0.step)⟩

end Go.Proofs.YtpemmaffbcbcjaaDoor.PKeyParses
