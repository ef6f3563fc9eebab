/- What the law TrieRaw uses, thinned: printed by shake2.py. -/
import Derived.Test.YtipbigdpannlcaaTTrieRawOTU
import Derived.Test.YtipbigdpannlcaaTTrieRawPTrieFitsx13
namespace Go.Proofs.Ytipbigdpannlcaa.Tr
open Go.RowKit Go.Proofs.YtipbigdpannlcaaW.PrintWords Go.Proofs.YtipbigdpannlcaaW.PrintLast Go.Proofs.YtipbigdpannlcaaW.PrintMore Go.Proofs.Ytipbigdpannlcaa.PTrieFits Go.Proofs.Ytipbigdpannlcaa.Pure
set_option maxRecDepth 100000
set_option linter.unusedVariables false
set_option linter.unusedSimpArgs false
theorem fits_any {w : World} (b : BR) (h : WfB b) {A : Option Addr} {d : Nat} (hk : kI.C w A b.f7.length b.f7) (hl : b.f7.length ≤ d) (dom up : Int) :
    Calls Try.prog 41 #[.agg (cellsB b A d), .int .i64 dom, .int .i64 up] w fun e w' => e = .returned (.bool (mayB b dom up)) ∧ Below w.heap.size w w' :=
  turncockref15_branchFits.calls _ b.f0 b.f1 b.f2 b.f3 b.f4 b.f5 b.f6.f0 b.f6.f1 b.f6.f2 b.f6.f3 b.f6.f4 b.f6.f5 A d b.f7 dom up _ w hk hl (fits_f b h dom up _ (Nat.le_refl _))
theorem any_take {p : Int → Bool} {l : List Int} {k : Nat} (hk : k ≤ l.length) (h : ∀ t : Nat, t < k → p (l.getD t 0) = false) : (l.take k).any p = false := by
  rw [Bool.eq_false_iff]
  intro e
  obtain ⟨j, hj, e⟩ := List.any_eq_true.1 e
  obtain ⟨t, ht, rfl⟩ := List.getElem_of_mem hj
  rw [List.length_take] at ht
  have := h t (by omega)
  rw [List.getD_eq_getElem?_getD, List.getElem?_eq_getElem (by omega)] at this
  rw [List.getElem_take] at e
  simp only [Option.getD_some] at this
  rw [this] at e; cases e
theorem any_take_true {p : Int → Bool} {l : List Int} {k t : Nat} (hk : k ≤ l.length) (ht : t < k) (h : p (l.getD t 0) = true) : (l.take k).any p = true := by
  rw [List.getD_eq_getElem?_getD, List.getElem?_eq_getElem (by omega)] at h
  refine List.any_eq_true.2 ⟨l[t], ?_, h⟩
  exact List.mem_take_iff_getElem.2 ⟨t, by omega, rfl⟩
theorem ret_bool {a b : Bool} (h : a = b) : Ending.returned (.bool a) = .returned (.bool b) := by rw [h]
set_option maxHeartbeats 4000000 in
theorem kids_any (f : Nat) : ∀ {w : World} {v : CfV} {c : Cfg} (cf : CfC w v c) (wf : ∀ b ∈ c.bs, WfB b) {AK : Option Addr} {ck : Nat} {kids : List Int} (hk : kI.C w AK kids.length kids) (hl : kids.length ≤ ck) (dom up next deep : Int) (h0 : 0 ≤ next) (hd0 : 0 ≤ deep) (hd : deep ≤ 9) (hf : 10 ≤ deep + f),
    Calls Try.prog 31 #[v.val c, .slice AK kids.length ck, .int .i64 next, .int .i64 dom, .int .i64 up, .int .i64 deep] w fun e w' => e = .returned (.int .i64 (wk mayB c.bs dom f kids up next deep)) ∧ Below w.heap.size w w' := by
  induction f with
  | zero => intros; omega
  | succ f ih =>
  intro w v c cf wf AK ck kids hk hl dom up next deep h0 hd0 hd hf
  obtain ⟨vA, vc, vB, vd⟩ := v
  have hmxb := Kd.C_max cf.bs
  have hmxk := Kd.C_max hk
  have CF := Aside0.mk cf
  have WF := Aside0.mk wf
  have HK := Aside0.mk hk
  have HL := Aside0.mk hl
  have IH := Aside0.mk @ih
  obtain ⟨R, hR⟩ : ∃ R, R = wkl mayB c.bs dom up deep (fun ks u n => wk mayB c.bs dom f ks u n (deep + 1)) [] kids next := ⟨_, rfl⟩
  rw [show wk mayB c.bs dom (f + 1) kids up next deep = R from hR.symm]
  have HR := Aside0.mk hR.symm
  have HD := Aside0.mk hf
  have HG0 := Aside0.mk (blk_new w (.cells #[.slice vA c.ds.length vc, .slice vB c.bs.length vd] 27))
  have HBA := Aside0.mk (below_alloc (Below.refl w.heap.size w) (.cells #[.slice vA c.ds.length vc, .slice vB c.bs.length vd] 27))
  clear cf wf hk hl ih hR hf
  unfold CfV.val
  dsimp only
  have HND := Aside0.mk (show 0 < kids.length → deep ≤ 8 → True from fun _ _ => trivial)
  by_cases hb1 : 0 < kids.length
  · have c1 : decide (0 < kids.length) = true := decide_eq_true hb1
    by_cases hb2 : 8 < deep
    · have c2 : decide (8 < deep) = true := decide_eq_true hb2
      have HW := Aside0.mk (show -1 = R by
        rw [← HR.out]
        match kids, hb1 with
        | k :: ks, _ => unfold wkl; rw [if_pos (.inr (.inr (.inl hb2)))])
      go_enter Try.func31, Try.ntmps31
      go_wp2
      go_ret
      exact ⟨ret_int HW.out, HBA.out⟩
    · have c2 : decide (8 < deep) = false := decide_eq_false hb2
      go_enter Try.func31, Try.ntmps31
      go_wp2
      go_loopw [2, 13] (fun nx i wr => ∃ (k : Nat) (n : Int), k ≤ kids.length ∧ i = .int .i64 k ∧ nx = .int .i64 n ∧ 0 ≤ n ∧ Aside0 (wkl mayB c.bs dom up deep (fun ks u n => wk mayB c.bs dom f ks u n (deep + 1)) (kids.take k) (kids.drop k) n = R) ∧ Aside0 (∀ j ∈ kids.take k, 0 ≤ j ∧ j < c.bs.length) ∧ Aside0 (Below w.heap.size w wr) ∧ Aside0 (wr.heap[w.heap.size]? = some (.cells #[.slice vA c.ds.length vc, .slice vB c.bs.length vd] 27 (0, 0)))) (fun _ i _ => kids.length - (intOf i).toNat)
      case atStart => exact ⟨0, next, Nat.zero_le _, rfl, rfl, h0, by simpa using HR, ⟨fun j hj => by simp at hj⟩, HBA, HG0⟩
      case round =>
        obtain ⟨k, n, hkl, rfl, rfl, hn0, HW, HA, HB, HG⟩ := hrel
        have g0 : wr.cell? ⟨w.heap.size, 0, none⟩ = some (.slice vA c.ds.length vc) := (blk_cell HG.out 0).trans rfl
        have g1 : wr.cell? ⟨w.heap.size, 1, none⟩ = some (.slice vB c.bs.length vd) := (blk_cell HG.out 1).trans rfl
        clear HG0 HBA HR
        by_cases hlt : k < kids.length
        · obtain ⟨ad, rfl, q⟩ := at_int (Kd.C_below HK.out HB.out) (k : Int) (by omega) (by omega)
          rw [Int.toNat_natCast] at q
          obtain ⟨m1, m2, m3⟩ := getD_at hlt
          have ej : rdOf 0 kids (k : Int) = kids.getD k 0 := by unfold rdOf; rw [Int.toNat_natCast]
          rw [ej] at q
          have d1 : decide (k < kids.length) = true := decide_eq_true hlt
          have hw := HW.out
          rw [m2] at hw
          have HT := Aside0.mk m3
          clear HW m1 m2 m3 ej
          generalize kids.getD k 0 = j0 at *
          unfold wkl at hw
          by_cases e1 : j0 = n
          · subst e1
            have b1 : (j0 == j0) = true := beq_self_eq_true _
            have b2 : (j0 != j0) = false := bne_self_eq_false _
            by_cases e2 : (c.bs.length : Int) ≤ j0
            · rw [if_pos (.inr (.inl e2))] at hw
              have b3 : decide ((c.bs.length : Int) ≤ j0) = true := decide_eq_true e2
              have HW := Aside0.mk hw
              clear hw
              go_wp2
              go_ret
              exact ⟨ret_int HW.out, HB.out⟩
            · have b3 : decide ((c.bs.length : Int) ≤ j0) = false := decide_eq_false e2
              obtain ⟨adb, A12, c12, eb, q0, q1, q2, q3, q4, q5, q6, q7, q8, q9, q10, q11, q12, l12, g12w⟩ := at_T46 CF.out.bs j0 hn0 (by omega)
              replace q0 := pw_cell_below HB.out q0
              replace q1 := pw_cell_below HB.out q1
              replace q2 := pw_cell_below HB.out q2
              replace q3 := pw_cell_below HB.out q3
              replace q4 := pw_cell_below HB.out q4
              replace q5 := pw_cell_below HB.out q5
              replace q6 := pw_cell_below HB.out q6
              replace q7 := pw_cell_below HB.out q7
              replace q8 := pw_cell_below HB.out q8
              replace q9 := pw_cell_below HB.out q9
              replace q10 := pw_cell_below HB.out q10
              replace q11 := pw_cell_below HB.out q11
              replace q12 := pw_cell_below HB.out q12
              have g12 := Kd.C_below g12w HB.out
              have HKB := Aside0.mk (fun (W : World) (hW : Below w.heap.size w W) => Kd.C_below g12w hW)
              clear g12w
              have hm := fits_any (br c.bs j0) (WF.out _ (br_mem hn0 (by omega))) g12 l12 dom up
              have HG12 := Aside0.mk g12
              have HL12 := Aside0.mk l12
              rw [br_rd] at q0 q1 q2 q3 q4 q5 q6 q7 q8 q9 q10 q11 q12 HG12 HL12 HKB
              obtain rfl : vB = some adb := eb
              clear g12 l12
              generalize hbb : br c.bs j0 = bb at *
              have HBB := Aside0.mk hbb
              clear hbb
              unfold cellsB at hm
              cases emay : mayB bb dom up with
              | false =>
                rw [if_pos (.inr (.inr (.inr emay)))] at hw
                rw [emay] at hm
                have HM := Aside0.mk hm
                have HW := Aside0.mk hw
                clear hw hm emay
                go_wp2_with fail
                (with_reducible refine (HM.out).mono ?_); rintro e w3 ⟨rfl, hb3⟩
                have HB3 := Aside0.mk hb3
                clear hb3 q0 q1 q2 q3 q4 q5 q6 q7 q8 q9 q10 q11 q12 q g0 g1
                go_wp2
                go_ret
                exact ⟨ret_int HW.out, below_then HB.out HB.out.size HB3.out⟩
              | true =>
                rw [if_neg (by rw [emay]; simp; omega)] at hw
                rw [emay] at hm
                have HM := Aside0.mk hm
                have HW := Aside0.mk hw
                clear hm emay hw
                go_wp2_with fail
                (with_reducible refine (HM.out).mono ?_); rintro e w3 ⟨rfl, hb3⟩
                replace q0 := pw_cell_below hb3 q0
                replace q1 := pw_cell_below hb3 q1
                replace q2 := pw_cell_below hb3 q2
                replace q3 := pw_cell_below hb3 q3
                replace q4 := pw_cell_below hb3 q4
                replace q5 := pw_cell_below hb3 q5
                replace q6 := pw_cell_below hb3 q6
                replace q7 := pw_cell_below hb3 q7
                replace q8 := pw_cell_below hb3 q8
                replace q9 := pw_cell_below hb3 q9
                replace q10 := pw_cell_below hb3 q10
                replace q11 := pw_cell_below hb3 q11
                replace q12 := pw_cell_below hb3 q12
                replace g1 := pw_cell_below hb3 g1
                have hx := blk_new w3 (.cells (cellsB bb A12 c12) 46)
                have hb6 := below_alloc hb3 (.cells (cellsB bb A12 c12) 46)
                have HG6 := Aside0.mk ((hb6.block _ (blk_lt HG.out)).trans HG.out)
                have HB6 := Aside0.mk (below_then HB.out HB.out.size hb6)
                have HX6 := Aside0.mk hx
                clear hb3 hx hb6 q g0
                go_wp2
                clear q0 q1 q2 q3 q4 q5 q6 q7 q8 q9 q10 q11 q12 g1
                unfold cellsB at HX6 HG6 HB6
                generalize hxb : w3.heap.size = xb at *
                generalize hW6 : w3.alloc (.cells #[.string bb.f0, .string bb.f1, .bool bb.f2, .int .i64 bb.f3, .int .i64 bb.f4, .bool bb.f5, .string bb.f6.f0, .int .i64 bb.f6.f1, .int .i64 bb.f6.f2, .float .f64 bb.f6.f3, .bool bb.f6.f4, .bool bb.f6.f5, .slice A12 bb.f7.length c12] 46) = W6 at *
                clear hxb hW6
                go_loopw [15] (fun i wr => ∃ qq : Nat, qq ≤ k ∧ i = .int .i64 qq ∧ Aside0 (∀ t : Nat, t < qq → twinB (br c.bs (kids.getD t 0)) bb = false) ∧ Aside0 (Below w.heap.size w wr) ∧ Aside0 (wr.heap[w.heap.size]? = some (.cells #[.slice vA c.ds.length vc, .slice (some adb) c.bs.length vd] 27 (0, 0))) ∧ Aside0 (wr.heap[xb]? = some (.cells (cellsB bb A12 c12) 46 (0, 0)))) (fun i _ => k - (intOf i).toNat)
                case atStart => exact ⟨0, Nat.zero_le _, rfl, ⟨fun t ht => by omega⟩, HB6, HG6, HX6⟩
                case round =>
                  obtain ⟨qq, hqk, rfl, HNT, HB7, HG7, HX7⟩ := hrel
                  clear HB6 HG6 HX6
                  have g1 : wr.cell? ⟨w.heap.size, 1, none⟩ = some (.slice (some adb) c.bs.length vd) := (blk_cell HG7.out 1).trans rfl
                  by_cases hq : qq < k
                  · have dq : decide (qq < k) = true := decide_eq_true hq
                    have hql : qq < kids.length := by omega
                    obtain ⟨ad', ea, qk⟩ := at_int (Kd.C_below HK.out HB7.out) (qq : Int) (by omega) (by omega)
                    obtain rfl := Option.some.inj ea
                    have ej : rdOf 0 kids (qq : Int) = kids.getD qq 0 := by unfold rdOf; rw [Int.toNat_natCast]
                    rw [ej, Int.toNat_natCast] at qk
                    have hjx := HA.out (kids.getD qq 0) (by rw [List.getD_eq_getElem?_getD, List.getElem?_eq_getElem (by omega)]; exact List.mem_take_iff_getElem.2 ⟨qq, by omega, rfl⟩)
                    clear ea ej
                    generalize hjj : kids.getD qq 0 = jx at *
                    have HJJ := Aside0.mk hjj
                    obtain ⟨hj0, hj1⟩ := hjx
                    clear hjj
                    obtain ⟨adb', XA, xc, eb, z0, z1, z2, z3, z4, z5, z6, z7, z8, z9, z10, z11, z12, _, _⟩ := at_T46 (Kd.C_below CF.out.bs HB7.out) jx hj0 hj1
                    obtain rfl := Option.some.inj eb
                    rw [br_rd] at z0 z1 z2 z3 z4 z5 z6 z7 z8 z9 z10 z11 z12
                    clear eb
                    generalize hxx : br c.bs jx = xx at *
                    have HXX := Aside0.mk hxx
                    clear hxx
                    have hb8 := below_drew (below_alloc HB7.out (.cells (cellsB xx XA xc) 46))
                    have HX8 := Aside0.mk (show (wr.alloc (.cells (cellsB xx XA xc) 46)).drew.heap[xb]? = _ from (Below.heap_alloc _ _ _ (blk_lt HX7.out)).trans HX7.out)
                    have HG8 := Aside0.mk (show (wr.alloc (.cells (cellsB xx XA xc) 46)).drew.heap[w.heap.size]? = _ from (Below.heap_alloc _ _ _ (blk_lt HG7.out)).trans HG7.out)
                    have HY8 := Aside0.mk (show (wr.alloc (.cells (cellsB xx XA xc) 46)).drew.heap[wr.heap.size]? = _ from blk_new wr (.cells (cellsB xx XA xc) 46))
                    have HB8 := Aside0.mk hb8
                    clear hb8
                    go_wp2
                    refine start_ (n := 10) (S := fun w' => w'.cell? ⟨w.heap.size, 1, none⟩ = some (.slice (some adb) c.bs.length vd) ∧ w'.cell? (ad.add qq) = some (.int .i64 jx) ∧ w'.cell? (adb.add (jx.toNat * 13)) = some (.string xx.f0) ∧ w'.cell? ⟨(adb.add (jx.toNat * 13)).block, (adb.add (jx.toNat * 13)).off + 1, none⟩ = some (.string xx.f1) ∧ w'.cell? ⟨(adb.add (jx.toNat * 13)).block, (adb.add (jx.toNat * 13)).off + 2, none⟩ = some (.bool xx.f2) ∧ w'.cell? ⟨(adb.add (jx.toNat * 13)).block, (adb.add (jx.toNat * 13)).off + 3, none⟩ = some (.int .i64 xx.f3) ∧ w'.cell? ⟨(adb.add (jx.toNat * 13)).block, (adb.add (jx.toNat * 13)).off + 4, none⟩ = some (.int .i64 xx.f4) ∧ w'.cell? ⟨(adb.add (jx.toNat * 13)).block, (adb.add (jx.toNat * 13)).off + 5, none⟩ = some (.bool xx.f5) ∧ w'.cell? ⟨(adb.add (jx.toNat * 13)).block, (adb.add (jx.toNat * 13)).off + 6, none⟩ = some (.string xx.f6.f0) ∧ w'.cell? ⟨(adb.add (jx.toNat * 13)).block, (adb.add (jx.toNat * 13)).off + 7, none⟩ = some (.int .i64 xx.f6.f1) ∧ w'.cell? ⟨(adb.add (jx.toNat * 13)).block, (adb.add (jx.toNat * 13)).off + 8, none⟩ = some (.int .i64 xx.f6.f2) ∧ w'.cell? ⟨(adb.add (jx.toNat * 13)).block, (adb.add (jx.toNat * 13)).off + 9, none⟩ = some (.float .f64 xx.f6.f3) ∧ w'.cell? ⟨(adb.add (jx.toNat * 13)).block, (adb.add (jx.toNat * 13)).off + 10, none⟩ = some (.bool xx.f6.f4) ∧ w'.cell? ⟨(adb.add (jx.toNat * 13)).block, (adb.add (jx.toNat * 13)).off + 11, none⟩ = some (.bool xx.f6.f5) ∧ w'.cell? ⟨(adb.add (jx.toNat * 13)).block, (adb.add (jx.toNat * 13)).off + 12, none⟩ = some (.slice XA xx.f7.length xc)) (ds := [9]) #[false, false, false, false, false, false, false, false, false, false] (by kernel_rfl) rfl rfl (⟨g1, qk, z0, z1, z2, z3, z4, z5, z6, z7, z8, z9, z10, z11, z12⟩) (fun hHeld => ?_)
                    refine pure_ (i := 0) (N := (some 64)) (v := ?_) (a' := ?_) #[true, false, false, false, false, false, false, false, false, false] rfl rfl (by kernel_rfl) (fun _ _ _ h => h) (Or.inl ⟨by rfl, ?_⟩) ?_ ?_
                    rotate_left
                    · intro w'
                      go_simp
                      try with_reducible rfl
                    rotate_left
                    · simp only [Act.put, List.setIfInBounds_toArray, List.set_cons_zero, List.set_cons_succ, i64_w, i32_w]
                      rfl
                    refine pure_ (i := 2) (N := (some 66)) (v := ?_) (a' := ?_) #[true, false, true, false, false, false, false, false, false, false] rfl rfl (by kernel_rfl) (fun _ _ _ h => h) (Or.inl ⟨by rfl, ?_⟩) ?_ ?_
                    rotate_left
                    · intro w'
                      go_simp
                      try with_reducible rfl
                    rotate_left
                    · simp only [Act.put, List.setIfInBounds_toArray, List.set_cons_zero, List.set_cons_succ, i64_w, i32_w]
                      rfl
                    refine pure_ (i := 3) (N := (some 67)) (v := ?_) (a' := ?_) #[true, false, true, true, false, false, false, false, false, false] rfl rfl (by kernel_rfl) (fun _ _ _ h => h) (Or.inl ⟨by rfl, ?_⟩) ?_ ?_
                    rotate_left
                    · intro w'
                      go_simp
                      try with_reducible rfl
                    rotate_left
                    · simp only [Act.put, List.setIfInBounds_toArray, List.set_cons_zero, List.set_cons_succ, i64_w, i32_w]
                      rfl
                    refine pure_ (i := 4) (N := (some 68)) (v := ?_) (a' := ?_) #[true, false, true, true, true, false, false, false, false, false] rfl rfl (by kernel_rfl) (fun _ _ _ h => h) (Or.inl ⟨by rfl, ?_⟩) ?_ ?_
                    rotate_left
                    · intro w'
                      go_simp
                      try with_reducible rfl
                    rotate_left
                    · simp only [Act.put, List.setIfInBounds_toArray, List.set_cons_zero, List.set_cons_succ, i64_w, i32_w]
                      rfl
                    refine take_ (i := 1) (N := (some 65)) (v := ?_) (a' := ?_) #[true, true, true, true, true, false, false, false, false, false] rfl rfl (by kernel_rfl) (fun _ _ _ h => h) (Or.inl ⟨by rfl, ?_⟩) hHeld ?_ ?_
                    rotate_left
                    · intro w' s0
                      obtain ⟨s0, s1, s2, s3, s4, s5, s6, s7, s8, s9, s10, s11, s12, s13, s14⟩ := s0
                      go_simp
                      try with_reducible rfl
                    rotate_left
                    · simp only [Act.put, List.setIfInBounds_toArray, List.set_cons_zero, List.set_cons_succ, i64_w, i32_w]
                      rfl
                    refine take_ (i := 5) (N := (some 69)) (v := ?_) (a' := ?_) #[true, true, true, true, true, true, false, false, false, false] rfl rfl (by kernel_rfl) (fun _ _ _ h => h) (Or.inl ⟨by rfl, ?_⟩) hHeld ?_ ?_
                    rotate_left
                    · intro w' s0
                      obtain ⟨s0, s1, s2, s3, s4, s5, s6, s7, s8, s9, s10, s11, s12, s13, s14⟩ := s0
                      go_simp
                      try with_reducible rfl
                    rotate_left
                    · simp only [Act.put, List.setIfInBounds_toArray, List.set_cons_zero, List.set_cons_succ, i64_w, i32_w]
                      rfl
                    refine pure_ (i := 6) (N := (some 70)) (v := ?_) (a' := ?_) #[true, true, true, true, true, true, true, false, false, false] rfl rfl (by kernel_rfl) (fun _ _ _ h => h) (Or.inl ⟨by rfl, ?_⟩) ?_ ?_
                    rotate_left
                    · intro w'
                      go_simp
                      try with_reducible rfl
                    rotate_left
                    · simp only [Act.put, List.setIfInBounds_toArray, List.set_cons_zero, List.set_cons_succ, i64_w, i32_w]
                      rfl
                    refine take_ (i := 7) (N := (some 71)) (v := ?_) (a' := ?_) #[true, true, true, true, true, true, true, true, false, false] rfl rfl (by kernel_rfl) (fun _ _ _ h => h) (Or.inl ⟨by rfl, ?_⟩) hHeld ?_ ?_
                    rotate_left
                    · intro w' s0
                      obtain ⟨s0, s1, s2, s3, s4, s5, s6, s7, s8, s9, s10, s11, s12, s13, s14⟩ := s0
                      go_simp
                      try with_reducible rfl
                    rotate_left
                    · simp only [Act.put, List.setIfInBounds_toArray, List.set_cons_zero, List.set_cons_succ, i64_w, i32_w]
                      rfl
                    refine one_ (i := 8) (N := (some 16)) #[true, true, true, true, true, true, true, true, true, false] rfl rfl (by kernel_rfl) (by decide) (fun K hK => ?_)
                    refine value_ (w1 := ?_) (v := ?_) (by rfl) rfl ?_ ?_
                    rotate_left 2
                    · go_simp
                      constructor
                      · rfl
                      · rfl
                    refine hK.out _ _ (by
                      obtain ⟨s0, s1, s2, s3, s4, s5, s6, s7, s8, s9, s10, s11, s12, s13, s14⟩ := hHeld
                      exact ⟨pw_cell_below (below_alloc (Below.refl _ _) _) s0, pw_cell_below (below_alloc (Below.refl _ _) _) s1, pw_cell_below (below_alloc (Below.refl _ _) _) s2, pw_cell_below (below_alloc (Below.refl _ _) _) s3, pw_cell_below (below_alloc (Below.refl _ _) _) s4, pw_cell_below (below_alloc (Below.refl _ _) _) s5, pw_cell_below (below_alloc (Below.refl _ _) _) s6, pw_cell_below (below_alloc (Below.refl _ _) _) s7, pw_cell_below (below_alloc (Below.refl _ _) _) s8, pw_cell_below (below_alloc (Below.refl _ _) _) s9, pw_cell_below (below_alloc (Below.refl _ _) _) s10, pw_cell_below (below_alloc (Below.refl _ _) _) s11, pw_cell_below (below_alloc (Below.refl _ _) _) s12, pw_cell_below (below_alloc (Below.refl _ _) _) s13, pw_cell_below (below_alloc (Below.refl _ _) _) s14⟩) (fun hHeld => ?_)
                    clear hK K
                    refine norm_ (a' := ?_) ?_ ?_
                    rotate_left
                    · show Act.put _ (some 16) _ = _
                      simp only [Act.put, List.setIfInBounds_toArray, List.set_cons_zero, List.set_cons_succ, i64_w, i32_w]
                      rfl
                    refine last_ (i := 9) (N := none) #[true, true, true, true, true, true, true, true, true, true] rfl rfl (by kernel_rfl) (by decide) (fun K hK => ?_)
                    refine skip_ (w1 := ?_) (by rfl) rfl ?_ ?_
                    rotate_left
                    · go_simp
                      rfl
                    refine hK.out _ _ ?_
                    clear hK K
                    refine done_ (by kernel_rfl) ?_
                    unfold cellsB at HX8 HG8 HY8 HB8
                    generalize hyb : wr.heap.size = yb at *
                    generalize hW8 : (wr.alloc (.cells #[.string xx.f0, .string xx.f1, .bool xx.f2, .int .i64 xx.f3, .int .i64 xx.f4, .bool xx.f5, .string xx.f6.f0, .int .i64 xx.f6.f1, .int .i64 xx.f6.f2, .float .f64 xx.f6.f3, .bool xx.f6.f4, .bool xx.f6.f5, .slice XA xx.f7.length xc] 46)).drew = W8 at *
                    clear z0 z1 z2 z3 z4 z5 z6 z7 z8 z9 z10 z11 z12 qk g1 hyb hW8
                    have x0 : W8.cell? ⟨xb, 0, none⟩ = some (.string bb.f0) := (blk_cell HX8.out 0).trans rfl
                    have x1 : W8.cell? ⟨xb, 1, none⟩ = some (.string bb.f1) := (blk_cell HX8.out 1).trans rfl
                    have x2 : W8.cell? ⟨xb, 2, none⟩ = some (.bool bb.f2) := (blk_cell HX8.out 2).trans rfl
                    have y0 : W8.cell? ⟨yb, 0, none⟩ = some (.string xx.f0) := (blk_cell HY8.out 0).trans rfl
                    have y1 : W8.cell? ⟨yb, 1, none⟩ = some (.string xx.f1) := (blk_cell HY8.out 1).trans rfl
                    have y2 : W8.cell? ⟨yb, 2, none⟩ = some (.bool xx.f2) := (blk_cell HY8.out 2).trans rfl
                    cases et : twinB xx bb with
                    | true =>
                      have HWT := Aside0.mk (show -1 = R by
                        have h1 : (kids.take k).any (fun j => twinB (br c.bs j) bb) = true := any_take_true (by omega) hq (by rw [HJJ.out, HXX.out]; exact et)
                        have h2 := HW.out
                        rw [if_pos h1] at h2
                        exact h2)
                      unfold twinB at et
                      simp only [Bool.and_eq_true, decide_eq_true_eq, beq_iff_eq] at et
                      obtain ⟨⟨et0, et1⟩, et2⟩ := et
                      have f0 : (xx.f0.toList == bb.f0.toList) = true := by rw [et0]; exact beq_self_eq_true _
                      have f1 : (xx.f1.toList == bb.f1.toList) = true := by rw [et1]; exact beq_self_eq_true _
                      have f2 : (xx.f2 == bb.f2) = true := by rw [et2]; exact beq_self_eq_true _
                      clear et0 et1 et2
                      go_wp2
                      go_ret
                      exact ⟨ret_int HWT.out, HB8.out⟩
                    | false =>
                      have HNE := Aside0.mk (show ∀ t : Nat, t < qq + 1 → twinB (br c.bs (kids.getD t 0)) bb = false from fun t ht => by
                        rcases Nat.lt_or_ge t qq with h | h
                        · exact HNT.out t h
                        · obtain rfl : t = qq := by omega
                          rw [HJJ.out, HXX.out]; exact et)
                      unfold twinB at et
                      by_cases e0 : xx.f0.toList = bb.f0.toList
                      · have f0 : (xx.f0.toList == bb.f0.toList) = true := by rw [e0]; exact beq_self_eq_true _
                        rw [decide_eq_true e0, Bool.true_and] at et
                        by_cases e1 : xx.f1.toList = bb.f1.toList
                        · have f1 : (xx.f1.toList == bb.f1.toList) = true := by rw [e1]; exact beq_self_eq_true _
                          rw [decide_eq_true e1, Bool.true_and] at et
                          clear e0 e1
                          go_wp2
                          go_roundw
                          case rel => exact ⟨qq + 1, by omega, by go_num, HNE, HB8, HG8, HX8⟩
                          case measure => simp [intOf]; omega
                        · have f1 : (xx.f1.toList == bb.f1.toList) = false := beq_eq_false_iff_ne.2 e1
                          clear e0 e1 et
                          go_wp2
                          go_roundw
                          case rel => exact ⟨qq + 1, by omega, by go_num, HNE, HB8, HG8, HX8⟩
                          case measure => simp [intOf]; omega
                      · have f0 : (xx.f0.toList == bb.f0.toList) = false := beq_eq_false_iff_ne.2 e0
                        clear e0 et
                        go_wp2
                        go_roundw
                        case rel => exact ⟨qq + 1, by omega, by go_num, HNE, HB8, HG8, HX8⟩
                        case measure => simp [intOf]; omega
                  · obtain rfl : qq = k := by omega
                    have HW2 := Aside0.mk (show (if wk mayB c.bs dom f bb.f7 j0 (j0 + 1) (deep + 1) < 0 then -1 else wkl mayB c.bs dom up deep (fun ks u n => wk mayB c.bs dom f ks u n (deep + 1)) (kids.take qq ++ [j0]) (kids.drop (qq + 1)) (wk mayB c.bs dom f bb.f7 j0 (j0 + 1) (deep + 1))) = R by
                      have h2 := HW.out
                      rw [if_neg (by rw [any_take (by omega) HNT.out]; decide)] at h2
                      exact h2)
                    have g0 : wr.cell? ⟨w.heap.size, 0, none⟩ = some (.slice vA c.ds.length vc) := (blk_cell HG7.out 0).trans rfl
                    have x12 : wr.cell? ⟨xb, 12, none⟩ = some (.slice A12 bb.f7.length c12) := (blk_cell HX7.out 12).trans rfl
                    have hcb := CF.out.below HB7.out
                    have hkb : kI.C wr A12 bb.f7.length bb.f7 := by
                      exact HKB.out wr HB7.out
                    have HIH := Aside0.mk (IH.out (v := ⟨vA, vc, some adb, vd⟩) hcb WF.out hkb HL12.out dom j0 (j0 + 1) (deep + 1) (by omega) (by omega) (by omega) (by have := HD.out; omega))
                    unfold CfV.val at HIH
                    dsimp only at HIH
                    clear hcb hkb HW
                    go_wp2_with fail
                    (with_reducible refine (HIH.out).mono ?_); rintro e w9 ⟨rfl, hb9⟩
                    have HB9 := Aside0.mk (below_then HB7.out HB7.out.size hb9)
                    have HG9 := Aside0.mk ((hb9.block _ (blk_lt HG7.out)).trans HG7.out)
                    clear hb9 g0 g1 x12
                    generalize wk mayB c.bs dom f bb.f7 j0 (j0 + 1) (deep + 1) = rr at *
                    by_cases hrr : rr < 0
                    · have d2 : decide (rr < 0) = true := decide_eq_true hrr
                      have HW3 := Aside0.mk ((if_pos hrr).symm.trans HW2.out)
                      go_wp2
                      go_ret
                      exact ⟨ret_int HW3.out, HB9.out⟩
                    · have d2 : decide (rr < 0) = false := decide_eq_false hrr
                      have HW3 := Aside0.mk ((if_neg hrr).symm.trans HW2.out)
                      go_wp2
                      go_roundw
                      case rel =>
                        refine ⟨qq + 1, rr, by omega, by go_num, rfl, by omega, ⟨by rw [HT.out]; exact HW3.out⟩, ⟨fun j hj => ?_⟩, HB9, HG9⟩
                        rw [HT.out] at hj
                        rcases List.mem_append.1 hj with h | h
                        · exact HA.out j h
                        · obtain rfl : j = j0 := by simpa using h
                          exact ⟨hn0, by omega⟩
                      case measure => simp [intOf]; omega
          · rw [if_pos (.inl e1)] at hw
            have b1 : (j0 == n) = false := beq_eq_false_iff_ne.2 e1
            have b2 : (j0 != n) = true := by rw [bne_iff_ne]; exact e1
            have HW := Aside0.mk hw
            clear e1 hw
            go_wp2
            go_ret
            exact ⟨ret_int HW.out, HB.out⟩
        · obtain rfl : k = kids.length := by omega
          have hw := HW.out
          rw [List.drop_length] at hw
          unfold wkl at hw
          have HW2 := Aside0.mk hw
          clear hw HW
          go_wp2
          go_ret
          exact ⟨ret_int HW2.out, HB.out⟩
  · have c1 : decide (0 < kids.length) = false := decide_eq_false hb1
    go_enter Try.func31, Try.ntmps31
    go_wp2
    have hb0 : kids = [] := List.eq_nil_of_length_eq_zero (by omega)
    have HW := Aside0.mk (show next = R by rw [← HR.out, hb0]; unfold wkl; rfl)
    clear hb0
    go_loopw [2, 13] (fun nx i wr => nx = .int .i64 next ∧ i = .int .i64 0 ∧ Aside0 (Below w.heap.size w wr)) (fun _ i _ => 1)
    case atStart => exact ⟨rfl, rfl, HBA⟩
    case round =>
      obtain ⟨rfl, rfl, HB⟩ := hrel
      go_wp2
      go_ret
      exact ⟨ret_int HW.out, HB.out⟩
end Go.Proofs.Ytipbigdpannlcaa.Tr
