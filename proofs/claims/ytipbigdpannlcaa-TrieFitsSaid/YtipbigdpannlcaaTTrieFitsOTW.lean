/- What the law TrieFits uses, thinned: printed by shake2.py. -/
import Derived.Test.YtipbigdpannlcaaTTrieFitsOTB
import Derived.Test.YtipbigdpannlcaaTTrieFitsOTF
import Derived.Lib.Hide
namespace Go.Proofs.Ytipbigdpannlcaa.Tr
open Go.RowKit Go.Proofs.YtipbigdpannlcaaW.PrintWords Go.Proofs.YtipbigdpannlcaaW.PrintLast Go.Proofs.YtipbigdpannlcaaW.PrintMore Go.Proofs.Ytipbigdpannlcaa.PTrieFits Go.Proofs.Ytipbigdpannlcaa.Pure
set_option maxRecDepth 100000
set_option linter.unusedVariables false
theorem may_any {w : World} (b : BR) (h : WfB b) {A : Option Addr} {d : Nat} (hk : kI.C w A b.f7.length b.f7) (hl : b.f7.length ≤ d) (dom up : Int) :
    Calls Try.prog 43 #[.agg (cellsB b A d), .int .i64 dom, .int .i64 up] w fun e w' => e = .returned (.bool (mayB b dom up)) ∧ Below w.heap.size w w' :=
  config_may.calls _ b.f0 b.f1 b.f2 b.f3 b.f4 b.f5 b.f6.f0 b.f6.f1 b.f6.f2 b.f6.f3 b.f6.f4 b.f6.f5 A d b.f7 dom up _ w hk hl (may_f b h dom up _ (Nat.le_refl _))
theorem getD_at {l : List Int} {k : Nat} (h : k < l.length) : l.getD k 0 ∈ l ∧ l.drop k = l.getD k 0 :: l.drop (k + 1) ∧ l.take (k + 1) = l.take k ++ [l.getD k 0] := by
  have e : l.getD k 0 = l[k] := by rw [List.getD_eq_getElem?_getD, List.getElem?_eq_getElem h]; rfl
  rw [e]
  exact ⟨List.getElem_mem h, List.drop_eq_getElem_cons h, List.take_succ_eq_append_getElem h⟩
theorem br_mem {bs : List BR} {i : Int} (h0 : 0 ≤ i) (h1 : i < bs.length) : br bs i ∈ bs := by
  unfold br
  rw [List.getD_eq_getElem?_getD, List.getElem?_eq_getElem (by omega)]
  exact List.getElem_mem _
theorem cont_at {w : World} {g x : Nat} {v : CfV} {c : Cfg} {b : BR} {A : Option Addr} {d : Nat} (h : CapC w g x v c b A d) {AK : Option Addr} {ck k : Nat} {ks : List Int} (hks : ks.length = k) (hk : kI.C w AK k ks) (hl : k ≤ ck) (hr : ∀ j ∈ ks, 0 ≤ j ∧ j < c.bs.length) :
    Calls Try.prog 44 #[.slice AK k ck, .func (.func 45) #[] #[.pointer (some ⟨g, 0, none⟩), .pointer (some ⟨x, 0, none⟩)]] w fun e w' => e = .returned (.bool (ks.any fun j => twinB (br c.bs j) b)) ∧ Below w.heap.size w w' := by
  subst hks
  exact cont_any h hk hl hr
theorem ret_int {k : IntKind} {a b : Int} (h : a = b) : Ending.returned (.int k a) = .returned (.int k b) := by rw [h]
set_option maxHeartbeats 4000000 in
theorem walk_any (f : Nat) : ∀ {w : World} {v : CfV} {c : Cfg} (cf : CfC w v c) (wf : ∀ b ∈ c.bs, WfB b) {AK : Option Addr} {ck : Nat} {kids : List Int} (hk : kI.C w AK kids.length kids) (hl : kids.length ≤ ck) (dom up next deep : Int) (h0 : 0 ≤ next) (hd0 : 0 ≤ deep) (hd : deep ≤ 9) (hf : 10 ≤ deep + f),
    Calls Try.prog 36 #[v.val c, .slice AK kids.length ck, .int .i64 dom, .int .i64 up, .int .i64 next, .int .i64 deep] w fun e w' => e = .returned (.int .i64 (wk mayB c.bs dom f kids up next deep)) ∧ Below w.heap.size w w' := by
  induction f with
  | zero => intros; omega
  | succ f ih =>
  intro w v c cf wf AK ck kids hk hl dom up next deep h0 hd0 hd hf
  obtain ⟨vA, vc, vB, vd⟩ := v
  have hmxb := Kd.C_max cf.bs
  have hmxk := Kd.C_max hk
  have CF := Aside0.mk cf
  have WF := Aside0.mk wf
  have HK := Aside0.mk hk
  have HL := Aside0.mk hl
  have HB0 := Aside0.mk (Below.refl w.heap.size w)
  have IH := Aside0.mk @ih
  obtain ⟨R, hR⟩ : ∃ R, R = wkl mayB c.bs dom up deep (fun ks u n => wk mayB c.bs dom f ks u n (deep + 1)) [] kids next := ⟨_, rfl⟩
  rw [show wk mayB c.bs dom (f + 1) kids up next deep = R from hR.symm]
  have HR := Aside0.mk hR.symm
  have hmf : ∀ (fn : Fn) (first cap : Array Value) (w : World), (Instr.makeFunc fn first cap).run Try.prog w = .ok (.func fn first cap) w := fun _ _ _ _ => rfl
  have HD := Aside0.mk hf
  clear cf wf hk hl ih hR hf
  unfold CfV.val
  dsimp only
  go_enter Try.func36, Try.ntmps36
  go_wp2
  have hg0 := blk_new w (.cells #[.slice vA c.ds.length vc, .slice vB c.bs.length vd] 27)
  have hb0 := below_alloc HB0.out (.cells #[.slice vA c.ds.length vc, .slice vB c.bs.length vd] 27)
  have HG0 := Aside0.mk hg0
  have HBA := Aside0.mk hb0
  clear hg0 hb0
  go_loopw [4, 18] (fun nx i wr => ∃ (k : Nat) (n : Int), k ≤ kids.length ∧ i = .int .i64 k ∧ nx = .int .i64 n ∧ 0 ≤ n ∧ Aside0 (wkl mayB c.bs dom up deep (fun ks u n => wk mayB c.bs dom f ks u n (deep + 1)) (kids.take k) (kids.drop k) n = R) ∧ Aside0 (∀ j ∈ kids.take k, 0 ≤ j ∧ j < c.bs.length) ∧ Aside0 (Below w.heap.size w wr) ∧ Aside0 (wr.heap[w.heap.size]? = some (.cells #[.slice vA c.ds.length vc, .slice vB c.bs.length vd] 27 (0, 0)))) (fun _ i _ => kids.length - (intOf i).toNat)
  case atStart => exact ⟨0, next, Nat.zero_le _, rfl, rfl, h0, by simpa using HR, ⟨fun j hj => by simp at hj⟩, HBA, HG0⟩
  case round =>
    obtain ⟨k, n, hkl, rfl, rfl, hn0, HW, HA, HB, HG⟩ := hrel
    have g0 : wr.cell? ⟨w.heap.size, 0, none⟩ = some (.slice vA c.ds.length vc) := (blk_cell HG.out 0).trans rfl
    have g1 : wr.cell? ⟨w.heap.size, 1, none⟩ = some (.slice vB c.bs.length vd) := (blk_cell HG.out 1).trans rfl
    clear HG0 HBA HR
    by_cases hlt : k < kids.length
    · obtain ⟨ad, rfl, q⟩ := at_int (Kd.C_below HK.out HB.out) (k : Int) (by omega) (by omega)
      rw [Int.toNat_natCast] at q
      obtain ⟨m1, m2, m3⟩ := getD_at hlt
      have ej : rdOf 0 kids (k : Int) = kids.getD k 0 := by unfold rdOf; rw [Int.toNat_natCast]
      rw [ej] at q
      have d1 : decide (k < kids.length) = true := decide_eq_true hlt
      have hw := HW.out
      rw [m2] at hw
      have HT := Aside0.mk m3
      clear HW m1 m2 m3 ej
      generalize kids.getD k 0 = j0 at *
      unfold wkl at hw
      by_cases e1 : j0 = n
      · subst e1
        have b1 : (j0 == j0) = true := beq_self_eq_true _
        have b2 : (j0 != j0) = false := bne_self_eq_false _
        by_cases e2 : (c.bs.length : Int) ≤ j0
        · rw [if_pos (.inr (.inl e2))] at hw
          have b3 : decide ((c.bs.length : Int) ≤ j0) = true := decide_eq_true e2
          have HW := Aside0.mk hw
          clear hw
          go_wp2
          go_ret
          exact ⟨ret_int HW.out, HB.out⟩
        · have b3 : decide ((c.bs.length : Int) ≤ j0) = false := decide_eq_false e2
          by_cases e3 : 8 < deep
          · rw [if_pos (.inr (.inr (.inl e3)))] at hw
            have b4 : decide (8 < deep) = true := decide_eq_true e3
            have HW := Aside0.mk hw
            clear hw
            go_wp2
            go_ret
            exact ⟨ret_int HW.out, HB.out⟩
          · have b4 : decide (8 < deep) = false := decide_eq_false e3
            obtain ⟨adb, A12, c12, eb, q0, q1, q2, q3, q4, q5, q6, q7, q8, q9, q10, q11, q12, l12, g12⟩ := at_T46 (Kd.C_below CF.out.bs HB.out) j0 hn0 (by omega)
            have hm := may_any (br c.bs j0) (WF.out _ (br_mem hn0 (by omega))) g12 l12 dom up
            have HG12 := Aside0.mk g12
            have HL12 := Aside0.mk l12
            rw [br_rd] at q0 q1 q2 q3 q4 q5 q6 q7 q8 q9 q10 q11 q12 HG12 HL12
            obtain rfl : vB = some adb := eb
            clear g12 l12
            have hkc : k ≤ ck := by have := HL.out; omega
            generalize hbb : br c.bs j0 = bb at *
            have HBB := Aside0.mk hbb
            clear hbb
            unfold cellsB at hm
            cases emay : mayB bb dom up with
            | false =>
              rw [if_pos (.inr (.inr (.inr emay)))] at hw
              rw [emay] at hm
              have HM := Aside0.mk hm
              have HW := Aside0.mk hw
              clear hw hm emay
              go_wp2_with fail
              (with_reducible refine (HM.out).mono ?_); rintro e w3 ⟨rfl, hb3⟩
              have HB3 := Aside0.mk hb3
              clear hb3 q0 q1 q2 q3 q4 q5 q6 q7 q8 q9 q10 q11 q12 q g0 g1
              go_wp2
              go_ret
              exact ⟨ret_int HW.out, below_then HB.out HB.out.size HB3.out⟩
            | true =>
              rw [if_neg (by rw [emay]; simp; omega)] at hw
              rw [emay] at hm
              have HM := Aside0.mk hm
              clear hm emay
              have hkc : k ≤ ck := by have := HL.out; omega
              cases et : (kids.take k).any (fun j => twinB (br c.bs j) bb) with
              | true =>
                rw [if_pos et] at hw
                have HW := Aside0.mk hw
                clear hw
                go_wp2_with fail
                (with_reducible refine (HM.out).mono ?_); rintro e w3 ⟨rfl, hb3⟩
                replace q0 := pw_cell_below hb3 q0
                replace q1 := pw_cell_below hb3 q1
                replace q2 := pw_cell_below hb3 q2
                replace q3 := pw_cell_below hb3 q3
                replace q4 := pw_cell_below hb3 q4
                replace q5 := pw_cell_below hb3 q5
                replace q6 := pw_cell_below hb3 q6
                replace q7 := pw_cell_below hb3 q7
                replace q8 := pw_cell_below hb3 q8
                replace q9 := pw_cell_below hb3 q9
                replace q10 := pw_cell_below hb3 q10
                replace q11 := pw_cell_below hb3 q11
                replace q12 := pw_cell_below hb3 q12
                replace g1 := pw_cell_below hb3 g1
                clear q g0
                have HB3 := Aside0.mk hb3
                have HB5 := Aside0.mk (below_then HB.out HB.out.size hb3)
                have hx := blk_new w3 (.cells (cellsB bb A12 c12) 46)
                have hb6 := below_alloc hb3 (.cells (cellsB bb A12 c12) 46)
                have hg6 := (hb6.block _ (blk_lt HG.out)).trans HG.out
                have HCC := Aside0.mk (show CapC (w3.alloc (.cells (cellsB bb A12 c12) 46)) w.heap.size w3.heap.size ⟨vA, vc, some adb, vd⟩ c bb A12 c12 from ⟨hg6, hx, CF.out.below (below_then HB.out HB.out.size hb6), Kd.C_below HG12.out hb6, HL12.out⟩)
                have HB6 := Aside0.mk (below_then HB.out HB.out.size hb6)
                have HK6 := Aside0.mk (Kd.C_take (Kd.C_below HK.out HB6.out) (m := k) hkl)
                have hlk : (kids.take k).length = k := by rw [List.length_take]; omega
                rw [hlk] at HK6
                have HCT := Aside0.mk (cont_at HCC.out (k := k) hlk HK6.out hkc HA.out)
                clear hb3 hx hb6 hg6 hlk
                go_wp2_with fail
                unfold cellsB at HCT
                (with_reducible refine (HCT.out).mono ?_); rintro e w5 ⟨rfl, hb5⟩
                have HB7 := Aside0.mk (below_then HB6.out HB6.out.size hb5)
                clear hb5 HCT q0 q1 q2 q3 q4 q5 q6 q7 q8 q9 q10 q11 q12 g1
                rw [et]
                clear et
                go_wp2
                go_ret
                exact ⟨ret_int HW.out, HB7.out⟩
              | false =>
                rw [if_neg (by rw [et]; decide)] at hw
                try dsimp only at hw
                have HW := Aside0.mk hw
                clear hw
                go_wp2_with fail
                (with_reducible refine (HM.out).mono ?_); rintro e w3 ⟨rfl, hb3⟩
                replace q0 := pw_cell_below hb3 q0
                replace q1 := pw_cell_below hb3 q1
                replace q2 := pw_cell_below hb3 q2
                replace q3 := pw_cell_below hb3 q3
                replace q4 := pw_cell_below hb3 q4
                replace q5 := pw_cell_below hb3 q5
                replace q6 := pw_cell_below hb3 q6
                replace q7 := pw_cell_below hb3 q7
                replace q8 := pw_cell_below hb3 q8
                replace q9 := pw_cell_below hb3 q9
                replace q10 := pw_cell_below hb3 q10
                replace q11 := pw_cell_below hb3 q11
                replace q12 := pw_cell_below hb3 q12
                replace g1 := pw_cell_below hb3 g1
                clear q g0
                have HB3 := Aside0.mk hb3
                have HB5 := Aside0.mk (below_then HB.out HB.out.size hb3)
                have hx := blk_new w3 (.cells (cellsB bb A12 c12) 46)
                have hb6 := below_alloc hb3 (.cells (cellsB bb A12 c12) 46)
                have hg6 := (hb6.block _ (blk_lt HG.out)).trans HG.out
                have HCC := Aside0.mk (show CapC (w3.alloc (.cells (cellsB bb A12 c12) 46)) w.heap.size w3.heap.size ⟨vA, vc, some adb, vd⟩ c bb A12 c12 from ⟨hg6, hx, CF.out.below (below_then HB.out HB.out.size hb6), Kd.C_below HG12.out hb6, HL12.out⟩)
                have HB6 := Aside0.mk (below_then HB.out HB.out.size hb6)
                have HK6 := Aside0.mk (Kd.C_take (Kd.C_below HK.out HB6.out) (m := k) hkl)
                have hlk : (kids.take k).length = k := by rw [List.length_take]; omega
                rw [hlk] at HK6
                have HCT := Aside0.mk (cont_at HCC.out (k := k) hlk HK6.out hkc HA.out)
                clear hb3 hx hb6 hg6 hlk
                go_wp2_with fail
                unfold cellsB at HCT
                (with_reducible refine (HCT.out).mono ?_); rintro e w5 ⟨rfl, hb5⟩
                have HB7 := Aside0.mk (below_then HB6.out HB6.out.size hb5)
                have hcc := HCC.out.below hb5
                have HIH := Aside0.mk (IH.out (v := ⟨vA, vc, some adb, vd⟩) hcc.cf WF.out hcc.kc hcc.kl dom j0 (j0 + 1) (deep + 1) (by omega) (by omega) (by omega) (by have := HD.out; omega))
                obtain ⟨x0, x1, x2, x3, x4, x5, x6, x7, x8, x9, x10, x11, x12⟩ := cellsB_at hcc.hx
                have y0 : w5.cell? ⟨w.heap.size, 0, none⟩ = some (.slice vA c.ds.length vc) := (blk_cell hcc.hg 0).trans rfl
                have y1 : w5.cell? ⟨w.heap.size, 1, none⟩ = some (.slice (some adb) c.bs.length vd) := (blk_cell hcc.hg 1).trans rfl
                have HG7 := Aside0.mk hcc.hg
                unfold CfV.val at HIH
                dsimp only at HIH
                clear hb5 HCT q0 q1 q2 q3 q4 q5 q6 q7 q8 q9 q10 q11 q12 g1 hcc x0 x1 x2 x3 x4 x5 x6 x7 x8 x9 x10 x11
                rw [et]
                clear et
                go_wp2_with fail
                (with_reducible refine (HIH.out).mono ?_); rintro e w8 ⟨rfl, hb8⟩
                have HB8 := Aside0.mk (below_then HB7.out HB7.out.size hb8)
                have HG8 := Aside0.mk ((hb8.block _ (blk_lt HG7.out)).trans HG7.out)
                clear hb8 y0 y1 x12
                generalize wk mayB c.bs dom f bb.f7 j0 (j0 + 1) (deep + 1) = rr at *
                by_cases hrr : rr < 0
                · have d2 : decide (rr < 0) = true := decide_eq_true hrr
                  have HW2 := Aside0.mk ((if_pos hrr).symm.trans HW.out)
                  go_wp2
                  go_ret
                  exact ⟨ret_int HW2.out, HB8.out⟩
                · have d2 : decide (rr < 0) = false := decide_eq_false hrr
                  have HW2 := Aside0.mk ((if_neg hrr).symm.trans HW.out)
                  go_wp2
                  go_roundw
                  case rel =>
                    refine ⟨k + 1, rr, by omega, by go_num, rfl, by omega, ⟨by rw [HT.out]; exact HW2.out⟩, ⟨fun j hj => ?_⟩, HB8, HG8⟩
                    rw [HT.out] at hj
                    rcases List.mem_append.1 hj with h | h
                    · exact HA.out j h
                    · obtain rfl : j = j0 := by simpa using h
                      exact ⟨hn0, by omega⟩
                  case measure => simp [intOf]; omega
      · rw [if_pos (.inl e1)] at hw
        have b1 : (j0 == n) = false := beq_eq_false_iff_ne.2 e1
        have b2 : (j0 != n) = true := by rw [bne_iff_ne]; exact e1
        have HW := Aside0.mk hw
        clear e1 hw
        go_wp2
        go_ret
        exact ⟨ret_int HW.out, HB.out⟩
    · obtain rfl : k = kids.length := by omega
      have hw := HW.out
      rw [List.drop_length] at hw
      unfold wkl at hw
      have HW2 := Aside0.mk hw
      clear hw HW
      go_wp2
      go_ret
      exact ⟨ret_int HW2.out, HB.out⟩
end Go.Proofs.Ytipbigdpannlcaa.Tr
