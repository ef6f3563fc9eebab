/- What the law TrieFits uses, thinned: printed by shake2.py. -/
import Derived.Test.YtipbigdpannlcaaTTrieFitsOTW
import Derived.Test.YtipbigdpannlcaaTTrieFitsOTM
import Derived.Test.YtipbigdpannlcaaTTrieFitsPTrieFitsx1
namespace Go.Proofs.Ytipbigdpannlcaa.Tr
open Go.RowKit Go.Proofs.YtipbigdpannlcaaW.PrintWords Go.Proofs.YtipbigdpannlcaaW.PrintLast Go.Proofs.YtipbigdpannlcaaW.PrintMore Go.Proofs.Ytipbigdpannlcaa.PTrieFits Go.Proofs.Ytipbigdpannlcaa.Pure
set_option maxRecDepth 100000
set_option linter.unusedVariables false
theorem name_any (s : ByteArray) (hs : s.size ≤ 9223372036854775807) (w : World) : Calls Try.prog 35 #[.string s] w fun e w' => e = .returned (.bool (nameB s)) ∧ Drawn0 w w' :=
  desc_Name.calls _ s _ w (name_f s hs (s.size + 2) (by omega))
def seenK (l : List DO) : List (ByteArray × Bool) := (l.map fun d => (d.f0, true)).reverse
theorem seenK_has (l : List DO) (s : ByteArray) : hasK (seenK l) s = l.any fun d => decide (d.f0 = s) := by
  unfold hasK seenK
  rw [List.any_reverse, List.any_map]
  rfl
theorem seenK_get (l : List DO) (s : ByteArray) : getK false (seenK l) s = l.any fun d => decide (d.f0 = s) := by
  rw [← seenK_has]
  unfold getK
  cases h : (seenK l).find? (fun c => decide (c.1 = s)) with
  | none =>
    symm
    rw [Bool.eq_false_iff]
    intro e
    obtain ⟨c, hc, e⟩ := (hasK_iff _ _).1 e
    have := List.find?_eq_none.1 h c hc
    simp [e] at this
  | some c =>
    have hc := List.mem_of_find?_eq_some h
    have h1 : decide (c.1 = s) = true := List.find?_some (p := fun c : ByteArray × Bool => decide (c.1 = s)) h
    rw [(hasK_iff _ _).2 ⟨c, hc, of_decide_eq_true h1⟩]
    unfold seenK at hc
    rw [List.mem_reverse] at hc
    obtain ⟨d, _, rfl⟩ := List.mem_map.1 hc
    rfl
theorem seenK_snoc (l : List DO) (d : DO) (h : hasK (seenK l) d.f0 = false) : (d.f0, true) :: dropK (seenK l) d.f0 = seenK (l ++ [d]) := by
  rw [dropK_no h]
  unfold seenK
  rw [List.map_append, List.reverse_append]
  rfl
theorem any_names (l : List DO) (s : ByteArray) : (l.map (·.f0)).any (fun x => decide (x = s)) = l.any fun d => decide (d.f0 = s) := by rw [List.any_map]; rfl
theorem getD_do {l : List DO} {k : Nat} (h : k < l.length) : l.getD k zD ∈ l ∧ l.drop k = l.getD k zD :: l.drop (k + 1) ∧ l.take (k + 1) = l.take k ++ [l.getD k zD] := by
  have e : l.getD k zD = l[k] := by rw [List.getD_eq_getElem?_getD, List.getElem?_eq_getElem h]; rfl
  rw [e]
  exact ⟨List.getElem_mem h, List.drop_eq_getElem_cons h, List.take_succ_eq_append_getElem h⟩
theorem MI.drewN {κ ν : Type} [DecidableEq κ] {m : MTy κ ν} {w : World} {mb : Nat} {K : List (κ × ν)} (h : MI m w mb K) (n : Nat) : MI m (w.drewN n) mb K := h.frm rfl
theorem MI.below {κ ν : Type} [DecidableEq κ] {m : MTy κ ν} {w w1 : World} {mb : Nat} {K : List (κ × ν)} (h : MI m w mb K) (k : Below w.heap.size w w1) : MI m w1 mb K := h.frm (k.block _ h.lt)
theorem lookSB {w : World} {mb : Nat} {K : List (ByteArray × Bool)} (h : MI mSB w mb K) {s : ByteArray} (hs : s.size ≤ maxLen) : (Instr.lookup 81 (.map (some mb)) (.string s) false).run Try.prog w = .ok (.bool (getK false K s)) w := h.look (m := mSB) hs false
theorem putSB {w : World} {mb : Nat} {K : List (ByteArray × Bool)} (h : MI mSB w mb K) (hn : K.length < maxLen) {s : ByteArray} (hs : s.size ≤ maxLen) (v : Bool) : ∃ w', (Instr.mapUpdate 81 (.map (some mb)) (.string s) (.bool v)).run Try.prog w = .ok () w' ∧ MI mSB w' mb ((s, v) :: dropK K s) ∧ w.grownBy w' (some mb) := h.put (m := mSB) hn hs v
def WfD (d : DO) : Prop := d.f0.size ≤ maxLen
set_option maxHeartbeats 4000000 in
theorem check_any {w : World} {v : CfV} {c : Cfg} (cf : CfC w v c) (wf : ∀ b ∈ c.bs, WfB b) (wd : ∀ d ∈ c.ds, WfD d) :
    Calls Try.prog 21 #[v.val c] w fun e w' => e = .returned (.int .i64 (if chk mayB nameB c = true then 0 else 1)) ∧ Below w.heap.size w w' := by
  obtain ⟨vA, vc, vB, vd⟩ := v
  have hmxb := Kd.C_max cf.bs
  have hmxd := Kd.C_max cf.ds
  have CF := Aside0.mk cf
  have WF := Aside0.mk wf
  have WD := Aside0.mk wd
  have hmm := @run_makeMap Try.prog
  obtain ⟨R, hR⟩ : ∃ R : Int, R = (if chk mayB nameB c = true then 0 else 1) := ⟨_, rfl⟩
  rw [← hR]
  unfold chk at hR
  have HR := Aside0.mk hR
  clear hR cf wf wd
  unfold CfV.val
  dsimp only
  have hg0 := blk_new w (.cells #[.slice vA c.ds.length vc, .slice vB c.bs.length vd] 27)
  have hb0 := below_alloc (Below.refl w.heap.size w) (.cells #[.slice vA c.ds.length vc, .slice vB c.bs.length vd] 27)
  have HG0 := Aside0.mk hg0
  have HBA := Aside0.mk hb0
  clear hg0 hb0
  by_cases h1 : (c.ds.length : Int) < 1
  · have d1 : decide ((c.ds.length : Int) < 1) = true := decide_eq_true h1
    have HR2 := Aside0.mk (show 1 = R by rw [HR.out, decide_eq_false (show ¬ 1 ≤ c.ds.length by omega)]; rfl)
    go_enter Try.func21, Try.ntmps21
    go_wp2
    go_ret
    exact ⟨ret_int HR2.out, HBA.out⟩
  · have d1 : decide ((c.ds.length : Int) < 1) = false := decide_eq_false h1
    by_cases h2 : 16 < (c.ds.length : Int)
    · have d2 : decide (16 < (c.ds.length : Int)) = true := decide_eq_true h2
      have HR2 := Aside0.mk (show 1 = R by rw [HR.out, decide_eq_false (show ¬ c.ds.length ≤ 16 by omega), Bool.and_false]; rfl)
      go_enter Try.func21, Try.ntmps21
      go_wp2
      go_ret
      exact ⟨ret_int HR2.out, HBA.out⟩
    · have d2 : decide (16 < (c.ds.length : Int)) = false := decide_eq_false h2
      by_cases h3 : 500 < (c.bs.length : Int)
      · have d3 : decide (500 < (c.bs.length : Int)) = true := decide_eq_true h3
        have HR2 := Aside0.mk (show 1 = R by rw [HR.out, decide_eq_false (show ¬ c.bs.length ≤ 500 by omega), Bool.and_false]; rfl)
        go_enter Try.func21, Try.ntmps21
        go_wp2
        go_ret
        exact ⟨ret_int HR2.out, HBA.out⟩
      · have d3 : decide (500 < (c.bs.length : Int)) = false := decide_eq_false h3
        have HR2 := Aside0.mk (show (if chD mayB nameB c.bs [] 0 c.ds 0 = (c.bs.length : Int) then 0 else 1) = R by
          rw [HR.out, decide_eq_true (show 1 ≤ c.ds.length by omega), decide_eq_true (show c.ds.length ≤ 16 by omega), decide_eq_true (show c.bs.length ≤ 500 by omega), Bool.true_and, Bool.true_and, Bool.true_and]
          simp only [decide_eq_true_eq])
        obtain ⟨r2, hr2⟩ : ∃ r2, chD mayB nameB c.bs [] 0 c.ds 0 = r2 := ⟨_, rfl⟩
        rw [hr2] at HR2
        have HD := Aside0.mk hr2
        clear HR hr2
        go_enter Try.func21, Try.ntmps21
        go_wp2
        have hm0 : MI mSB ((w.alloc (.cells #[.slice vA c.ds.length vc, .slice vB c.bs.length vd] 27)).alloc (.map #[] 0)) (w.heap.size + 1) [] := by
          have := MI.made (m := mSB) (w.alloc (.cells #[.slice vA c.ds.length vc, .slice vB c.bs.length vd] 27))
          simpa using this
        have HM0 := Aside0.mk hm0
        have HB1 := Aside0.mk (below_alloc HBA.out (.map #[] 0))
        have HG1 := Aside0.mk ((Below.heap_alloc _ (.map #[] 0) _ (blk_lt HG0.out)).trans HG0.out)
        clear hm0 HG0 HBA
        go_loopw [4, 27] (fun nx i wr => ∃ (k : Nat) (n : Int), k ≤ c.ds.length ∧ i = .int .i64 k ∧ nx = .int .i64 n ∧ 0 ≤ n ∧ Aside0 (chD mayB nameB c.bs ((c.ds.take k).map (·.f0)) k (c.ds.drop k) n = r2) ∧ Aside0 (MI mSB wr (w.heap.size + 1) (seenK (c.ds.take k))) ∧ Aside0 (Below w.heap.size w wr) ∧ Aside0 (wr.heap[w.heap.size]? = some (.cells #[.slice vA c.ds.length vc, .slice vB c.bs.length vd] 27 (0, 0)))) (fun _ i _ => c.ds.length - (intOf i).toNat)
        case atStart => exact ⟨0, 0, Nat.zero_le _, rfl, rfl, Int.le_refl _, by simpa using HD, HM0, HB1, HG1⟩
        case round =>
          obtain ⟨k, n, hkl, rfl, rfl, hn0, HW, HM, HB, HG⟩ := hrel
          clear HM0 HB1 HG1 HD
          have g0 : wr.cell? ⟨w.heap.size, 0, none⟩ = some (.slice vA c.ds.length vc) := (blk_cell HG.out 0).trans rfl
          have g1 : wr.cell? ⟨w.heap.size, 1, none⟩ = some (.slice vB c.bs.length vd) := (blk_cell HG.out 1).trans rfl
          by_cases hlt : k < c.ds.length
          · obtain ⟨adb, A1, c1, eb, q0, q1, l1, kk1⟩ := at_T53 CF.out.ds (k : Int) (by omega) (by omega)
            replace q0 := pw_cell_below HB.out q0
            replace q1 := pw_cell_below HB.out q1
            obtain rfl : vA = some adb := eb
            have er : rd_T53 c.ds (k : Int) = c.ds.getD k zD := by unfold rd_T53; rw [Int.toNat_natCast]
            rw [er] at q0 q1 l1 kk1
            rw [Int.toNat_natCast] at q0 q1
            obtain ⟨m1, m2, m3⟩ := getD_do hlt
            have hw := HW.out
            rw [m2] at hw
            have HT := Aside0.mk m3
            have hwd : (c.ds.getD k zD).f0.size ≤ maxLen := WD.out _ m1
            clear HW m1 m2 m3 er
            generalize c.ds.getD k zD = d at *
            have HL1 := Aside0.mk l1
            have HK1 := Aside0.mk kk1
            clear l1 kk1
            have d4 : decide (k < c.ds.length) = true := decide_eq_true hlt
            have HWD := Aside0.mk hwd
            have hwd2 : d.f0.size ≤ 9223372036854775807 := by simpa [maxLen] using hwd
            clear hwd
            unfold chD at hw
            rw [any_names] at hw
            have hbA := below_alloc HB.out (.cells #[.string d.f0, .slice A1 d.f1.length c1] 53)
            have hmA : MI mSB (wr.alloc (.cells #[.string d.f0, .slice A1 d.f1.length c1] 53)) (w.heap.size + 1) (seenK (c.ds.take k)) := HM.out.frm (Below.heap_alloc _ _ _ HM.out.lt)
            have hlk := lookSB hmA HWD.out
            rw [seenK_get] at hlk
            have hxA := blk_new wr (.cells #[.string d.f0, .slice A1 d.f1.length c1] 53)
            have hgA := (Below.heap_alloc wr (.cells #[.string d.f0, .slice A1 d.f1.length c1] 53) _ (blk_lt HG.out)).trans HG.out
            have HBA := Aside0.mk hbA
            have HMA := Aside0.mk hmA
            have HXA := Aside0.mk hxA
            have HGA := Aside0.mk hgA
            clear hbA hmA hxA hgA
            cases es : (c.ds.take k).any (fun d' => decide (d'.f0 = d.f0)) with
            | true =>
              rw [es] at hlk hw
              rw [if_pos (.inl rfl)] at hw
              have HW := Aside0.mk (show 1 = R by rw [← HR2.out, ← hw, if_neg (by omega)])
              clear hw es
              go_wp2
              go_ret
              exact ⟨ret_int HW.out, HBA.out⟩
            | false =>
              rw [es] at hlk hw
              have HES := Aside0.mk es
              have HNM := Aside0.mk (name_any d.f0 hwd2)
              clear es
              cases en : nameB d.f0 with
              | false =>
                rw [if_pos (.inr en)] at hw
                rw [en] at HNM
                have HW := Aside0.mk (show 1 = R by rw [← HR2.out, ← hw, if_neg (by omega)])
                clear hw en
                go_wp2_with fail
                (with_reducible refine (HNM.out _).mono ?_); rintro e w3 ⟨rfl, ⟨nd, rfl⟩⟩
                go_wp2
                go_ret
                exact ⟨ret_int HW.out, pw_below_drewN HBA.out nd⟩
              | true =>
                rw [if_neg (by rw [en]; decide)] at hw
                rw [en] at HNM
                have HW := Aside0.mk hw
                clear hw en
                go_wp2_with fail
                (with_reducible refine (HNM.out _).mono ?_); rintro e w3 ⟨rfl, ⟨nd, hw3⟩⟩
                have hm3 : MI mSB w3 (w.heap.size + 1) (seenK (c.ds.take k)) := by rw [hw3]; exact HMA.out.drewN nd
                have hx3 : w3.heap[wr.heap.size]? = some (.cells #[.string d.f0, .slice A1 d.f1.length c1] 53 (0, 0)) := by rw [hw3]; exact HXA.out
                have hb3 : Below w.heap.size w w3 := by rw [hw3]; exact pw_below_drewN HBA.out nd
                have hg3 : w3.heap[w.heap.size]? = some (.cells #[.slice (some adb) c.ds.length vc, .slice vB c.bs.length vd] 27 (0, 0)) := by rw [hw3]; exact HGA.out
                clear hw3 hlk q0 q1 g0 g1
                have hl3 : (seenK (c.ds.take k)).length < maxLen := by unfold seenK; rw [List.length_reverse, List.length_map, List.length_take]; unfold maxLen; omega
                obtain ⟨w6, hrun, hm6, hgr⟩ := putSB hm3 hl3 HWD.out true
                rw [seenK_snoc _ _ (by rw [seenK_has]; exact HES.out), ← HT.out] at hm6
                have hb6 : Below w.heap.size w w6 := pw_below_grown hb3 (some (w.heap.size + 1)) hb3.size hgr (fun k hk => by cases hk; omega)
                have hx6 : w6.heap[wr.heap.size]? = some (.cells #[.string d.f0, .slice A1 d.f1.length c1] 53 (0, 0)) := (hgr.block _ (blk_lt hx3) (fun e => by have := Option.some.inj e; have := HM.out.lt; omega)).trans hx3
                have hg6 : w6.heap[w.heap.size]? = some (.cells #[.slice (some adb) c.ds.length vc, .slice vB c.bs.length vd] 27 (0, 0)) := (hgr.block _ (blk_lt hg3) (fun e => by have := Option.some.inj e; omega)).trans hg3
                have x30 : w3.cell? ⟨wr.heap.size, 0, none⟩ = some (.string d.f0) := (blk_cell hx3 0).trans rfl
                have x60 : w6.cell? ⟨wr.heap.size, 0, none⟩ = some (.string d.f0) := (blk_cell hx6 0).trans rfl
                have x61 : w6.cell? ⟨wr.heap.size, 1, none⟩ = some (.slice A1 d.f1.length c1) := (blk_cell hx6 1).trans rfl
                have g60 : w6.cell? ⟨w.heap.size, 0, none⟩ = some (.slice (some adb) c.ds.length vc) := (blk_cell hg6 0).trans rfl
                have g61 : w6.cell? ⟨w.heap.size, 1, none⟩ = some (.slice vB c.bs.length vd) := (blk_cell hg6 1).trans rfl
                have HIH := Aside0.mk (walk_any 9 (v := ⟨some adb, vc, vB, vd⟩) (CF.out.below hb6) WF.out (Kd.C_below HK1.out hb6) HL1.out (k : Int) (-1) n 1 hn0 (by omega) (by omega) (by omega))
                unfold CfV.val at HIH
                dsimp only at HIH
                have HB6 := Aside0.mk hb6
                have HG6 := Aside0.mk hg6
                have HM6 := Aside0.mk hm6
                clear hm3 hx3 hb3 hg3 hl3 hm6 hb6 hx6 hg6 hgr
                go_wp2_with fail
                (with_reducible refine (HIH.out).mono ?_); rintro e w8 ⟨rfl, hb8⟩
                have HB8 := Aside0.mk (below_then HB6.out HB6.out.size hb8)
                have HG8 := Aside0.mk ((hb8.block _ (blk_lt HG6.out)).trans HG6.out)
                have HM8 := Aside0.mk (HM6.out.below hb8)
                clear hb8 hrun x30 x60 x61 g60 g61
                generalize wk mayB c.bs k 9 d.f1 (-1) n 1 = rr at *
                by_cases hrr : rr < 0
                · have d2 : decide (rr < 0) = true := decide_eq_true hrr
                  have HW2 := Aside0.mk (show 1 = R by rw [← HR2.out, ← HW.out, if_pos hrr, if_neg (by omega)])
                  go_wp2
                  go_ret
                  exact ⟨ret_int HW2.out, HB8.out⟩
                · have d2 : decide (rr < 0) = false := decide_eq_false hrr
                  have HW2 := Aside0.mk ((if_neg hrr).symm.trans HW.out)
                  go_wp2
                  go_roundw
                  case rel =>
                    refine ⟨k + 1, rr, by omega, by go_num, rfl, by omega, ⟨?_⟩, HM8, HB8, HG8⟩
                    rw [HT.out, List.map_append]
                    exact HW2.out
                  case measure => simp [intOf]; omega
          · obtain rfl : k = c.ds.length := by omega
            have hw := HW.out
            rw [List.drop_length] at hw
            unfold chD at hw
            subst hw
            have HW2 := HR2.out
            by_cases en : n = (c.bs.length : Int)
            · rw [if_pos en] at HW2
              have b1 : (n != (c.bs.length : Int)) = false := by rw [en]; exact bne_self_eq_false _
              have HW3 := Aside0.mk HW2
              clear en HW2 HW
              go_wp2
              go_ret
              exact ⟨ret_int HW3.out, HB.out⟩
            · rw [if_neg en] at HW2
              have b1 : (n != (c.bs.length : Int)) = true := by rw [bne_iff_ne]; exact en
              have HW3 := Aside0.mk HW2
              clear en HW2 HW
              go_wp2
              go_ret
              exact ⟨ret_int HW3.out, HB.out⟩
end Go.Proofs.Ytipbigdpannlcaa.Tr
