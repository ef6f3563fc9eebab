/- What the law TrieRaw uses, thinned: printed by shake2.py. -/
import Derived.Test.YtipbigdpannlcaaTTrieRawOTV
import Derived.Test.YtipbigdpannlcaaTTrieRawPTrieFitsx10
namespace Go.Proofs.Ytipbigdpannlcaa.Tr
open Go.RowKit Go.Proofs.YtipbigdpannlcaaW.PrintWords Go.Proofs.YtipbigdpannlcaaW.PrintLast Go.Proofs.YtipbigdpannlcaaW.PrintMore Go.Proofs.Ytipbigdpannlcaa.PTrieFits Go.Proofs.Ytipbigdpannlcaa.Pure
set_option maxRecDepth 100000
set_option linter.unusedVariables false
set_option linter.unusedSimpArgs false
theorem rname_any (s : ByteArray) (hs : s.size ≤ 9223372036854775807) (w : World) : Calls Try.prog 30 #[.string s] w fun e w' => e = .returned (.bool (nameB s)) ∧ Drawn0 w w' :=
  turncockref1_Name.calls _ s _ w (rname_f s hs (s.size + 2) (by omega))
theorem names_any {l : List DO} {k : Nat} {s : ByteArray} (hk : k ≤ l.length) (h : ∀ t : Nat, t < k → (l.getD t zD).f0 ≠ s) : (l.take k).any (fun d => decide (d.f0 = s)) = false := by
  rw [Bool.eq_false_iff]
  intro e
  obtain ⟨j, hj, e⟩ := List.any_eq_true.1 e
  obtain ⟨t, ht, rfl⟩ := List.getElem_of_mem hj
  rw [List.length_take] at ht
  have := h t (by omega)
  rw [List.getD_eq_getElem?_getD, List.getElem?_eq_getElem (by omega)] at this
  rw [List.getElem_take] at e
  exact this (of_decide_eq_true e)
theorem names_any_true {l : List DO} {k t : Nat} {s : ByteArray} (hk : k ≤ l.length) (ht : t < k) (h : (l.getD t zD).f0 = s) : (l.take k).any (fun d => decide (d.f0 = s)) = true := by
  rw [List.getD_eq_getElem?_getD, List.getElem?_eq_getElem (by omega)] at h
  exact List.any_eq_true.2 ⟨l[t], List.mem_take_iff_getElem.2 ⟨t, by omega, rfl⟩, decide_eq_true h⟩
set_option maxHeartbeats 4000000 in
theorem rcheck_any {w : World} {v : CfV} {c : Cfg} (cf : CfC w v c) (wf : ∀ b ∈ c.bs, WfB b) (wd : ∀ d ∈ c.ds, WfD d) :
    Calls Try.prog 13 #[v.val c] w fun e w' => e = .returned (.bool (chk mayB nameB c)) ∧ Below w.heap.size w w' := by
  obtain ⟨vA, vc, vB, vd⟩ := v
  have hmxb := Kd.C_max cf.bs
  have hmxd := Kd.C_max cf.ds
  have CF := Aside0.mk cf
  have WF := Aside0.mk wf
  have WD := Aside0.mk wd
  obtain ⟨R, hR⟩ : ∃ R : Bool, R = chk mayB nameB c := ⟨_, rfl⟩
  rw [← hR]
  unfold chk at hR
  have HR := Aside0.mk hR
  clear hR cf wf wd
  unfold CfV.val
  dsimp only
  have HG0 := Aside0.mk (blk_new w (.cells #[.slice vA c.ds.length vc, .slice vB c.bs.length vd] 27))
  have HBA := Aside0.mk (below_alloc (Below.refl w.heap.size w) (.cells #[.slice vA c.ds.length vc, .slice vB c.bs.length vd] 27))
  by_cases h1 : (c.ds.length : Int) < 1
  · have d1 : decide ((c.ds.length : Int) < 1) = true := decide_eq_true h1
    have HR2 := Aside0.mk (show false = R by rw [HR.out, decide_eq_false (show ¬ 1 ≤ c.ds.length by omega)]; rfl)
    go_enter Try.func13, Try.ntmps13
    go_wp2
    go_ret
    exact ⟨ret_bool HR2.out, HBA.out⟩
  · have d1 : decide ((c.ds.length : Int) < 1) = false := decide_eq_false h1
    by_cases h2 : 16 < (c.ds.length : Int)
    · have d2 : decide (16 < (c.ds.length : Int)) = true := decide_eq_true h2
      have HR2 := Aside0.mk (show false = R by rw [HR.out, decide_eq_false (show ¬ c.ds.length ≤ 16 by omega), Bool.and_false]; rfl)
      go_enter Try.func13, Try.ntmps13
      go_wp2
      go_ret
      exact ⟨ret_bool HR2.out, HBA.out⟩
    · have d2 : decide (16 < (c.ds.length : Int)) = false := decide_eq_false h2
      by_cases h3 : 500 < (c.bs.length : Int)
      · have d3 : decide (500 < (c.bs.length : Int)) = true := decide_eq_true h3
        have HR2 := Aside0.mk (show false = R by rw [HR.out, decide_eq_false (show ¬ c.bs.length ≤ 500 by omega), Bool.and_false]; rfl)
        go_enter Try.func13, Try.ntmps13
        go_wp2
        go_ret
        exact ⟨ret_bool HR2.out, HBA.out⟩
      · have d3 : decide (500 < (c.bs.length : Int)) = false := decide_eq_false h3
        obtain ⟨r2, hr2⟩ : ∃ r2, chD mayB nameB c.bs [] 0 c.ds 0 = r2 := ⟨_, rfl⟩
        have HR2 := Aside0.mk (show decide (r2 = (c.bs.length : Int)) = R by
          rw [HR.out, decide_eq_true (show 1 ≤ c.ds.length by omega), decide_eq_true (show c.ds.length ≤ 16 by omega), decide_eq_true (show c.bs.length ≤ 500 by omega), Bool.true_and, Bool.true_and, Bool.true_and, hr2])
        have HD := Aside0.mk hr2
        clear HR hr2
        go_enter Try.func13, Try.ntmps13
        go_wp2
        go_loopw [3, 4] (fun nx i wr => ∃ (k : Nat) (n : Int), k ≤ c.ds.length ∧ i = .int .i64 k ∧ nx = .int .i64 n ∧ 0 ≤ n ∧ Aside0 (chD mayB nameB c.bs ((c.ds.take k).map (·.f0)) k (c.ds.drop k) n = r2) ∧ Aside0 (Below w.heap.size w wr) ∧ Aside0 (wr.heap[w.heap.size]? = some (.cells #[.slice vA c.ds.length vc, .slice vB c.bs.length vd] 27 (0, 0)))) (fun _ i _ => c.ds.length - (intOf i).toNat)
        case atStart => exact ⟨0, 0, Nat.zero_le _, rfl, rfl, Int.le_refl _, by simpa using HD, HBA, HG0⟩
        case round =>
          obtain ⟨k, n, hkl, rfl, rfl, hn0, HW, HB, HG⟩ := hrel
          clear HBA HG0 HD
          have g0 : wr.cell? ⟨w.heap.size, 0, none⟩ = some (.slice vA c.ds.length vc) := (blk_cell HG.out 0).trans rfl
          have g1 : wr.cell? ⟨w.heap.size, 1, none⟩ = some (.slice vB c.bs.length vd) := (blk_cell HG.out 1).trans rfl
          by_cases hlt : k < c.ds.length
          · obtain ⟨adb, A1, c1, eb, q0, q1, l1, kk1⟩ := at_T53 CF.out.ds (k : Int) (by omega) (by omega)
            have HQ0 := Aside0.mk q0
            have HQ1 := Aside0.mk q1
            replace q0 := pw_cell_below HB.out q0
            replace q1 := pw_cell_below HB.out q1
            obtain rfl : vA = some adb := eb
            have er : rd_T53 c.ds (k : Int) = c.ds.getD k zD := by unfold rd_T53; rw [Int.toNat_natCast]
            rw [er] at q0 q1 l1 kk1 HQ0 HQ1
            rw [Int.toNat_natCast] at q0 q1 HQ0 HQ1
            obtain ⟨m1, m2, m3⟩ := getD_do hlt
            have hw := HW.out
            rw [m2] at hw
            have HT := Aside0.mk m3
            have hwd : (c.ds.getD k zD).f0.size ≤ maxLen := WD.out _ m1
            clear HW m1 m2 m3 er
            generalize c.ds.getD k zD = d at *
            have HL1 := Aside0.mk l1
            have HK1 := Aside0.mk kk1
            clear l1 kk1
            have d4 : decide (k < c.ds.length) = true := decide_eq_true hlt
            have hwd2 : d.f0.size ≤ 9223372036854775807 := by simpa [maxLen] using hwd
            clear hwd
            unfold chD at hw
            rw [any_names] at hw
            have HW := Aside0.mk hw
            have HNM := Aside0.mk (rname_any d.f0 hwd2)
            clear hw
            cases en : nameB d.f0 with
            | false =>
              have HF := Aside0.mk (show false = R by
                have h := HW.out
                rw [if_pos (.inr en)] at h
                rw [← HR2.out, ← h]
                exact (decide_eq_false (by omega)).symm)
              rw [en] at HNM
              clear en
              go_wp2_with fail
              (with_reducible refine (HNM.out _).mono ?_); rintro e w3 ⟨rfl, ⟨nd, rfl⟩⟩
              go_wp2
              go_ret
              exact ⟨ret_bool HF.out, pw_below_drewN HB.out nd⟩
            | true =>
              rw [en] at HNM
              have HEN := Aside0.mk en
              clear en
              go_wp2_with fail
              (with_reducible refine (HNM.out _).mono ?_); rintro e w3 ⟨rfl, ⟨nd, hw3⟩⟩
              have HB3 := Aside0.mk (show Below w.heap.size w w3 by rw [hw3]; exact pw_below_drewN HB.out nd)
              have HG3 := Aside0.mk (show w3.heap[w.heap.size]? = some (.cells #[.slice (some adb) c.ds.length vc, .slice vB c.bs.length vd] 27 (0, 0)) by rw [hw3]; exact HG.out)
              clear hw3 q0 q1 g0 g1
              go_wp2
              go_loopw [5] (fun i wr => ∃ qq : Nat, qq ≤ k ∧ i = .int .i64 qq ∧ Aside0 (∀ t : Nat, t < qq → (c.ds.getD t zD).f0 ≠ d.f0) ∧ Aside0 (Below w.heap.size w wr) ∧ Aside0 (wr.heap[w.heap.size]? = some (.cells #[.slice (some adb) c.ds.length vc, .slice vB c.bs.length vd] 27 (0, 0)))) (fun i _ => k - (intOf i).toNat)
              case atStart => exact ⟨0, Nat.zero_le _, rfl, ⟨fun t ht => by omega⟩, HB3, HG3⟩
              case round =>
                obtain ⟨qq, hqk, rfl, HNT, HB7, HG7⟩ := hrel
                clear HB3 HG3
                have g0 : wr.cell? ⟨w.heap.size, 0, none⟩ = some (.slice (some adb) c.ds.length vc) := (blk_cell HG7.out 0).trans rfl
                have g1 : wr.cell? ⟨w.heap.size, 1, none⟩ = some (.slice vB c.bs.length vd) := (blk_cell HG7.out 1).trans rfl
                have q0 := pw_cell_below HB7.out HQ0.out
                have q1 := pw_cell_below HB7.out HQ1.out
                by_cases hq : qq < k
                · have dq : decide (qq < k) = true := decide_eq_true hq
                  have hql : qq < c.ds.length := by omega
                  obtain ⟨adb', _, _, ea, qx, _, _, _⟩ := at_T53 CF.out.ds (qq : Int) (by omega) (by omega)
                  obtain rfl := Option.some.inj ea
                  have er : rd_T53 c.ds (qq : Int) = c.ds.getD qq zD := by unfold rd_T53; rw [Int.toNat_natCast]
                  rw [er, Int.toNat_natCast] at qx
                  replace qx := pw_cell_below HB7.out qx
                  clear ea er q1 g1
                  generalize hxx : (c.ds.getD qq zD).f0 = x at *
                  have HXX := Aside0.mk hxx
                  clear hxx
                  have HBD := Aside0.mk (below_drew HB7.out)
                  have HGD := Aside0.mk (show wr.drew.heap[w.heap.size]? = some (.cells #[.slice (some adb) c.ds.length vc, .slice vB c.bs.length vd] 27 (0, 0)) from HG7.out)
                  by_cases ex : x.toList = d.f0.toList
                  · have f0 : (x.toList == d.f0.toList) = true := by rw [ex]; exact beq_self_eq_true _
                    have HF := Aside0.mk (show false = R by
                      have h := HW.out
                      have exx : x = d.f0 := by
                        rw [ByteArray.toList_eq, ByteArray.toList_eq] at ex
                        exact Go.WideShapes.bytes_inj ex
                      rw [if_pos (.inl (names_any_true (by omega) hq (HXX.out.trans exx)))] at h
                      rw [← HR2.out, ← h]
                      exact (decide_eq_false (by omega)).symm)
                    clear ex
                    go_wp2
                    refine start_ (n := 13) (S := fun w' => w'.cell? ⟨w.heap.size, 0, none⟩ = some (.slice (some adb) c.ds.length vc) ∧ w'.cell? (adb.add (qq * 2)) = some (.string x) ∧ w'.cell? (adb.add (k * 2)) = some (.string d.f0)) (ds := []) #[false, false, false, false, false, false, false, false, false, false, false, false, false] (by kernel_rfl) rfl rfl (⟨g0, qx, q0⟩) (fun hHeld => ?_)
                    refine pure_ (i := 0) (N := (some 42)) (v := ?_) (a' := ?_) #[true, false, false, false, false, false, false, false, false, false, false, false, false] rfl rfl (by kernel_rfl) (fun _ _ _ h => h) (Or.inl ⟨by rfl, ?_⟩) ?_ ?_
                    rotate_left
                    · intro w'
                      go_simp
                      try with_reducible rfl
                    rotate_left
                    · simp only [Act.put, List.setIfInBounds_toArray, List.set_cons_zero, List.set_cons_succ, i64_w, i32_w]
                      rfl
                    refine pure_ (i := 2) (N := (some 44)) (v := ?_) (a' := ?_) #[true, false, true, false, false, false, false, false, false, false, false, false, false] rfl rfl (by kernel_rfl) (fun _ _ _ h => h) (Or.inl ⟨by rfl, ?_⟩) ?_ ?_
                    rotate_left
                    · intro w'
                      go_simp
                      try with_reducible rfl
                    rotate_left
                    · simp only [Act.put, List.setIfInBounds_toArray, List.set_cons_zero, List.set_cons_succ, i64_w, i32_w]
                      rfl
                    refine pure_ (i := 6) (N := (some 48)) (v := ?_) (a' := ?_) #[true, false, true, false, false, false, true, false, false, false, false, false, false] rfl rfl (by kernel_rfl) (fun _ _ _ h => h) (Or.inl ⟨by rfl, ?_⟩) ?_ ?_
                    rotate_left
                    · intro w'
                      go_simp
                      try with_reducible rfl
                    rotate_left
                    · simp only [Act.put, List.setIfInBounds_toArray, List.set_cons_zero, List.set_cons_succ, i64_w, i32_w]
                      rfl
                    refine pure_ (i := 8) (N := (some 50)) (v := ?_) (a' := ?_) #[true, false, true, false, false, false, true, false, true, false, false, false, false] rfl rfl (by kernel_rfl) (fun _ _ _ h => h) (Or.inl ⟨by rfl, ?_⟩) ?_ ?_
                    rotate_left
                    · intro w'
                      go_simp
                      try with_reducible rfl
                    rotate_left
                    · simp only [Act.put, List.setIfInBounds_toArray, List.set_cons_zero, List.set_cons_succ, i64_w, i32_w]
                      rfl
                    refine take_ (i := 1) (N := (some 43)) (v := ?_) (a' := ?_) #[true, true, true, false, false, false, true, false, true, false, false, false, false] rfl rfl (by kernel_rfl) (fun _ _ _ h => h) (Or.inl ⟨by rfl, ?_⟩) hHeld ?_ ?_
                    rotate_left
                    · intro w' s0
                      obtain ⟨s0, s1, s2⟩ := s0
                      go_simp
                      try with_reducible rfl
                    rotate_left
                    · simp only [Act.put, List.setIfInBounds_toArray, List.set_cons_zero, List.set_cons_succ, i64_w, i32_w]
                      rfl
                    refine pure_ (i := 3) (N := (some 45)) (v := ?_) (a' := ?_) #[true, true, true, true, false, false, true, false, true, false, false, false, false] rfl rfl (by kernel_rfl) (fun _ _ _ h => h) (Or.inl ⟨by rfl, ?_⟩) ?_ ?_
                    rotate_left
                    · intro w'
                      go_simp
                      try with_reducible rfl
                    rotate_left
                    · simp only [Act.put, List.setIfInBounds_toArray, List.set_cons_zero, List.set_cons_succ, i64_w, i32_w]
                      rfl
                    refine pure_ (i := 4) (N := (some 46)) (v := ?_) (a' := ?_) #[true, true, true, true, true, false, true, false, true, false, false, false, false] rfl rfl (by kernel_rfl) (fun _ _ _ h => h) (Or.inl ⟨by rfl, ?_⟩) ?_ ?_
                    rotate_left
                    · intro w'
                      go_simp
                      try with_reducible rfl
                    rotate_left
                    · simp only [Act.put, List.setIfInBounds_toArray, List.set_cons_zero, List.set_cons_succ, i64_w, i32_w]
                      rfl
                    refine take_ (i := 5) (N := (some 47)) (v := ?_) (a' := ?_) #[true, true, true, true, true, true, true, false, true, false, false, false, false] rfl rfl (by kernel_rfl) (fun _ _ _ h => h) (Or.inl ⟨by rfl, ?_⟩) hHeld ?_ ?_
                    rotate_left
                    · intro w' s0
                      obtain ⟨s0, s1, s2⟩ := s0
                      go_simp
                      try with_reducible rfl
                    rotate_left
                    · simp only [Act.put, List.setIfInBounds_toArray, List.set_cons_zero, List.set_cons_succ, i64_w, i32_w]
                      rfl
                    refine take_ (i := 7) (N := (some 49)) (v := ?_) (a' := ?_) #[true, true, true, true, true, true, true, true, true, false, false, false, false] rfl rfl (by kernel_rfl) (fun _ _ _ h => h) (Or.inl ⟨by rfl, ?_⟩) hHeld ?_ ?_
                    rotate_left
                    · intro w' s0
                      obtain ⟨s0, s1, s2⟩ := s0
                      go_simp
                      try with_reducible rfl
                    rotate_left
                    · simp only [Act.put, List.setIfInBounds_toArray, List.set_cons_zero, List.set_cons_succ, i64_w, i32_w]
                      rfl
                    refine pure_ (i := 9) (N := (some 51)) (v := ?_) (a' := ?_) #[true, true, true, true, true, true, true, true, true, true, false, false, false] rfl rfl (by kernel_rfl) (fun _ _ _ h => h) (Or.inl ⟨by rfl, ?_⟩) ?_ ?_
                    rotate_left
                    · intro w'
                      go_simp
                      try with_reducible rfl
                    rotate_left
                    · simp only [Act.put, List.setIfInBounds_toArray, List.set_cons_zero, List.set_cons_succ, i64_w, i32_w]
                      rfl
                    refine pure_ (i := 10) (N := (some 52)) (v := ?_) (a' := ?_) #[true, true, true, true, true, true, true, true, true, true, true, false, false] rfl rfl (by kernel_rfl) (fun _ _ _ h => h) (Or.inl ⟨by rfl, ?_⟩) ?_ ?_
                    rotate_left
                    · intro w'
                      go_simp
                      try with_reducible rfl
                    rotate_left
                    · simp only [Act.put, List.setIfInBounds_toArray, List.set_cons_zero, List.set_cons_succ, i64_w, i32_w]
                      rfl
                    refine take_ (i := 11) (N := (some 53)) (v := ?_) (a' := ?_) #[true, true, true, true, true, true, true, true, true, true, true, true, false] rfl rfl (by kernel_rfl) (fun _ _ _ h => h) (Or.inl ⟨by rfl, ?_⟩) hHeld ?_ ?_
                    rotate_left
                    · intro w' s0
                      obtain ⟨s0, s1, s2⟩ := s0
                      go_simp
                      try with_reducible rfl
                    rotate_left
                    · simp only [Act.put, List.setIfInBounds_toArray, List.set_cons_zero, List.set_cons_succ, i64_w, i32_w]
                      rfl
                    refine pure_ (i := 12) (N := (some 54)) (v := ?_) (a' := ?_) #[true, true, true, true, true, true, true, true, true, true, true, true, true] rfl rfl (by kernel_rfl) (fun _ _ _ h => h) (Or.inl ⟨by rfl, ?_⟩) ?_ ?_
                    rotate_left
                    · intro w'
                      go_simp
                      try with_reducible rfl
                    rotate_left
                    · simp only [Act.put, List.setIfInBounds_toArray, List.set_cons_zero, List.set_cons_succ, i64_w, i32_w]
                      rfl
                    refine done_ (by kernel_rfl) ?_
                    go_wp2
                    go_ret
                    exact ⟨ret_bool HF.out, HBD.out⟩
                  · have f0 : (x.toList == d.f0.toList) = false := beq_eq_false_iff_ne.2 ex
                    have HNE := Aside0.mk (show ∀ t : Nat, t < qq + 1 → (c.ds.getD t zD).f0 ≠ d.f0 from fun t ht => by
                      rcases Nat.lt_or_ge t qq with h | h
                      · exact HNT.out t h
                      · obtain rfl : t = qq := by omega
                        rw [HXX.out]
                        exact fun e => ex (by rw [e]))
                    clear ex
                    go_wp2
                    refine start_ (n := 13) (S := fun w' => w'.cell? ⟨w.heap.size, 0, none⟩ = some (.slice (some adb) c.ds.length vc) ∧ w'.cell? (adb.add (qq * 2)) = some (.string x) ∧ w'.cell? (adb.add (k * 2)) = some (.string d.f0)) (ds := []) #[false, false, false, false, false, false, false, false, false, false, false, false, false] (by kernel_rfl) rfl rfl (⟨g0, qx, q0⟩) (fun hHeld => ?_)
                    refine pure_ (i := 0) (N := (some 42)) (v := ?_) (a' := ?_) #[true, false, false, false, false, false, false, false, false, false, false, false, false] rfl rfl (by kernel_rfl) (fun _ _ _ h => h) (Or.inl ⟨by rfl, ?_⟩) ?_ ?_
                    rotate_left
                    · intro w'
                      go_simp
                      try with_reducible rfl
                    rotate_left
                    · simp only [Act.put, List.setIfInBounds_toArray, List.set_cons_zero, List.set_cons_succ, i64_w, i32_w]
                      rfl
                    refine pure_ (i := 2) (N := (some 44)) (v := ?_) (a' := ?_) #[true, false, true, false, false, false, false, false, false, false, false, false, false] rfl rfl (by kernel_rfl) (fun _ _ _ h => h) (Or.inl ⟨by rfl, ?_⟩) ?_ ?_
                    rotate_left
                    · intro w'
                      go_simp
                      try with_reducible rfl
                    rotate_left
                    · simp only [Act.put, List.setIfInBounds_toArray, List.set_cons_zero, List.set_cons_succ, i64_w, i32_w]
                      rfl
                    refine pure_ (i := 6) (N := (some 48)) (v := ?_) (a' := ?_) #[true, false, true, false, false, false, true, false, false, false, false, false, false] rfl rfl (by kernel_rfl) (fun _ _ _ h => h) (Or.inl ⟨by rfl, ?_⟩) ?_ ?_
                    rotate_left
                    · intro w'
                      go_simp
                      try with_reducible rfl
                    rotate_left
                    · simp only [Act.put, List.setIfInBounds_toArray, List.set_cons_zero, List.set_cons_succ, i64_w, i32_w]
                      rfl
                    refine pure_ (i := 8) (N := (some 50)) (v := ?_) (a' := ?_) #[true, false, true, false, false, false, true, false, true, false, false, false, false] rfl rfl (by kernel_rfl) (fun _ _ _ h => h) (Or.inl ⟨by rfl, ?_⟩) ?_ ?_
                    rotate_left
                    · intro w'
                      go_simp
                      try with_reducible rfl
                    rotate_left
                    · simp only [Act.put, List.setIfInBounds_toArray, List.set_cons_zero, List.set_cons_succ, i64_w, i32_w]
                      rfl
                    refine take_ (i := 1) (N := (some 43)) (v := ?_) (a' := ?_) #[true, true, true, false, false, false, true, false, true, false, false, false, false] rfl rfl (by kernel_rfl) (fun _ _ _ h => h) (Or.inl ⟨by rfl, ?_⟩) hHeld ?_ ?_
                    rotate_left
                    · intro w' s0
                      obtain ⟨s0, s1, s2⟩ := s0
                      go_simp
                      try with_reducible rfl
                    rotate_left
                    · simp only [Act.put, List.setIfInBounds_toArray, List.set_cons_zero, List.set_cons_succ, i64_w, i32_w]
                      rfl
                    refine pure_ (i := 3) (N := (some 45)) (v := ?_) (a' := ?_) #[true, true, true, true, false, false, true, false, true, false, false, false, false] rfl rfl (by kernel_rfl) (fun _ _ _ h => h) (Or.inl ⟨by rfl, ?_⟩) ?_ ?_
                    rotate_left
                    · intro w'
                      go_simp
                      try with_reducible rfl
                    rotate_left
                    · simp only [Act.put, List.setIfInBounds_toArray, List.set_cons_zero, List.set_cons_succ, i64_w, i32_w]
                      rfl
                    refine pure_ (i := 4) (N := (some 46)) (v := ?_) (a' := ?_) #[true, true, true, true, true, false, true, false, true, false, false, false, false] rfl rfl (by kernel_rfl) (fun _ _ _ h => h) (Or.inl ⟨by rfl, ?_⟩) ?_ ?_
                    rotate_left
                    · intro w'
                      go_simp
                      try with_reducible rfl
                    rotate_left
                    · simp only [Act.put, List.setIfInBounds_toArray, List.set_cons_zero, List.set_cons_succ, i64_w, i32_w]
                      rfl
                    refine take_ (i := 5) (N := (some 47)) (v := ?_) (a' := ?_) #[true, true, true, true, true, true, true, false, true, false, false, false, false] rfl rfl (by kernel_rfl) (fun _ _ _ h => h) (Or.inl ⟨by rfl, ?_⟩) hHeld ?_ ?_
                    rotate_left
                    · intro w' s0
                      obtain ⟨s0, s1, s2⟩ := s0
                      go_simp
                      try with_reducible rfl
                    rotate_left
                    · simp only [Act.put, List.setIfInBounds_toArray, List.set_cons_zero, List.set_cons_succ, i64_w, i32_w]
                      rfl
                    refine take_ (i := 7) (N := (some 49)) (v := ?_) (a' := ?_) #[true, true, true, true, true, true, true, true, true, false, false, false, false] rfl rfl (by kernel_rfl) (fun _ _ _ h => h) (Or.inl ⟨by rfl, ?_⟩) hHeld ?_ ?_
                    rotate_left
                    · intro w' s0
                      obtain ⟨s0, s1, s2⟩ := s0
                      go_simp
                      try with_reducible rfl
                    rotate_left
                    · simp only [Act.put, List.setIfInBounds_toArray, List.set_cons_zero, List.set_cons_succ, i64_w, i32_w]
                      rfl
                    refine pure_ (i := 9) (N := (some 51)) (v := ?_) (a' := ?_) #[true, true, true, true, true, true, true, true, true, true, false, false, false] rfl rfl (by kernel_rfl) (fun _ _ _ h => h) (Or.inl ⟨by rfl, ?_⟩) ?_ ?_
                    rotate_left
                    · intro w'
                      go_simp
                      try with_reducible rfl
                    rotate_left
                    · simp only [Act.put, List.setIfInBounds_toArray, List.set_cons_zero, List.set_cons_succ, i64_w, i32_w]
                      rfl
                    refine pure_ (i := 10) (N := (some 52)) (v := ?_) (a' := ?_) #[true, true, true, true, true, true, true, true, true, true, true, false, false] rfl rfl (by kernel_rfl) (fun _ _ _ h => h) (Or.inl ⟨by rfl, ?_⟩) ?_ ?_
                    rotate_left
                    · intro w'
                      go_simp
                      try with_reducible rfl
                    rotate_left
                    · simp only [Act.put, List.setIfInBounds_toArray, List.set_cons_zero, List.set_cons_succ, i64_w, i32_w]
                      rfl
                    refine take_ (i := 11) (N := (some 53)) (v := ?_) (a' := ?_) #[true, true, true, true, true, true, true, true, true, true, true, true, false] rfl rfl (by kernel_rfl) (fun _ _ _ h => h) (Or.inl ⟨by rfl, ?_⟩) hHeld ?_ ?_
                    rotate_left
                    · intro w' s0
                      obtain ⟨s0, s1, s2⟩ := s0
                      go_simp
                      try with_reducible rfl
                    rotate_left
                    · simp only [Act.put, List.setIfInBounds_toArray, List.set_cons_zero, List.set_cons_succ, i64_w, i32_w]
                      rfl
                    refine pure_ (i := 12) (N := (some 54)) (v := ?_) (a' := ?_) #[true, true, true, true, true, true, true, true, true, true, true, true, true] rfl rfl (by kernel_rfl) (fun _ _ _ h => h) (Or.inl ⟨by rfl, ?_⟩) ?_ ?_
                    rotate_left
                    · intro w'
                      go_simp
                      try with_reducible rfl
                    rotate_left
                    · simp only [Act.put, List.setIfInBounds_toArray, List.set_cons_zero, List.set_cons_succ, i64_w, i32_w]
                      rfl
                    refine done_ (by kernel_rfl) ?_
                    go_wp2
                    go_roundw
                    case rel => exact ⟨qq + 1, by omega, by go_num, HNE, HBD, HGD⟩
                    case measure => simp [intOf]; omega
                · obtain rfl : qq = k := by omega
                  have HW2 := Aside0.mk (show (if wk mayB c.bs qq 9 d.f1 (-1) n 1 < 0 then -1 else chD mayB nameB c.bs ((c.ds.take qq).map (·.f0) ++ [d.f0]) (qq + 1) (c.ds.drop (qq + 1)) (wk mayB c.bs qq 9 d.f1 (-1) n 1)) = r2 by
                    have h := HW.out
                    rw [if_neg (by rw [names_any (by omega) HNT.out, HEN.out]; decide)] at h
                    exact h)
                  have HBD := Aside0.mk (below_drew HB7.out)
                  have HGD := Aside0.mk (show wr.drew.heap[w.heap.size]? = some (.cells #[.slice (some adb) c.ds.length vc, .slice vB c.bs.length vd] 27 (0, 0)) from HG7.out)
                  have HIH := Aside0.mk (kids_any 9 (v := ⟨some adb, vc, vB, vd⟩) (CF.out.below HBD.out) WF.out (Kd.C_below HK1.out HBD.out) HL1.out (qq : Int) (-1) n 1 hn0 (by omega) (by omega) (by omega))
                  unfold CfV.val at HIH
                  dsimp only at HIH
                  clear q0 HW
                  go_wp2
                  refine start_ (n := 11) (S := fun w' => w'.cell? ⟨w.heap.size, 0, none⟩ = some (.slice (some adb) c.ds.length vc) ∧ w'.cell? ⟨w.heap.size, 1, none⟩ = some (.slice vB c.bs.length vd) ∧ w'.cell? ⟨(adb.add (qq * 2)).block, (adb.add (qq * 2)).off + 1, none⟩ = some (.slice A1 d.f1.length c1)) (ds := []) #[false, false, false, false, false, false, false, false, false, false, false] (by kernel_rfl) rfl rfl (⟨g0, g1, q1⟩) (fun hHeld => ?_)
                  generalize wr.drew = wd at *
                  refine pure_ (i := 1) (N := (some 56)) (v := ?_) (a' := ?_) #[false, true, false, false, false, false, false, false, false, false, false] rfl rfl (by kernel_rfl) (fun _ _ _ h => h) (Or.inl ⟨by rfl, ?_⟩) ?_ ?_
                  rotate_left
                  · intro w'
                    go_simp
                    try with_reducible rfl
                  rotate_left
                  · simp only [Act.put, List.setIfInBounds_toArray, List.set_cons_zero, List.set_cons_succ, i64_w, i32_w]
                    rfl
                  refine pure_ (i := 3) (N := (some 58)) (v := ?_) (a' := ?_) #[false, true, false, true, false, false, false, false, false, false, false] rfl rfl (by kernel_rfl) (fun _ _ _ h => h) (Or.inl ⟨by rfl, ?_⟩) ?_ ?_
                  rotate_left
                  · intro w'
                    go_simp
                    try with_reducible rfl
                  rotate_left
                  · simp only [Act.put, List.setIfInBounds_toArray, List.set_cons_zero, List.set_cons_succ, i64_w, i32_w]
                    rfl
                  refine pure_ (i := 7) (N := (some 62)) (v := ?_) (a' := ?_) #[false, true, false, true, false, false, false, true, false, false, false] rfl rfl (by kernel_rfl) (fun _ _ _ h => h) (Or.inl ⟨by rfl, ?_⟩) ?_ ?_
                  rotate_left
                  · intro w'
                    go_simp
                    try with_reducible rfl
                  rotate_left
                  · simp only [Act.put, List.setIfInBounds_toArray, List.set_cons_zero, List.set_cons_succ, i64_w, i32_w]
                    rfl
                  refine pure_ (i := 8) (N := (some 63)) (v := ?_) (a' := ?_) #[false, true, false, true, false, false, false, true, true, false, false] rfl rfl (by kernel_rfl) (fun _ _ _ h => h) (Or.inl ⟨by rfl, ?_⟩) ?_ ?_
                  rotate_left
                  · intro w'
                    go_simp
                    try with_reducible rfl
                  rotate_left
                  · simp only [Act.put, List.setIfInBounds_toArray, List.set_cons_zero, List.set_cons_succ, i64_w, i32_w]
                    rfl
                  refine take_ (i := 0) (N := (some 55)) (v := ?_) (a' := ?_) #[true, true, false, true, false, false, false, true, true, false, false] rfl rfl (by kernel_rfl) (fun _ _ _ h => h) (Or.inl ⟨by rfl, ?_⟩) hHeld ?_ ?_
                  rotate_left
                  · intro w' s0
                    obtain ⟨s0, s1, s2⟩ := s0
                    go_simp
                    try with_reducible rfl
                  rotate_left
                  · simp only [Act.put, List.setIfInBounds_toArray, List.set_cons_zero, List.set_cons_succ, i64_w, i32_w]
                    rfl
                  refine take_ (i := 2) (N := (some 57)) (v := ?_) (a' := ?_) #[true, true, true, true, false, false, false, true, true, false, false] rfl rfl (by kernel_rfl) (fun _ _ _ h => h) (Or.inl ⟨by rfl, ?_⟩) hHeld ?_ ?_
                  rotate_left
                  · intro w' s0
                    obtain ⟨s0, s1, s2⟩ := s0
                    go_simp
                    try with_reducible rfl
                  rotate_left
                  · simp only [Act.put, List.setIfInBounds_toArray, List.set_cons_zero, List.set_cons_succ, i64_w, i32_w]
                    rfl
                  refine pure_ (i := 4) (N := (some 59)) (v := ?_) (a' := ?_) #[true, true, true, true, true, false, false, true, true, false, false] rfl rfl (by kernel_rfl) (fun _ _ _ h => h) (Or.inl ⟨by rfl, ?_⟩) ?_ ?_
                  rotate_left
                  · intro w'
                    go_simp
                    try with_reducible rfl
                  rotate_left
                  · simp only [Act.put, List.setIfInBounds_toArray, List.set_cons_zero, List.set_cons_succ, i64_w, i32_w]
                    rfl
                  refine pure_ (i := 5) (N := (some 60)) (v := ?_) (a' := ?_) #[true, true, true, true, true, true, false, true, true, false, false] rfl rfl (by kernel_rfl) (fun _ _ _ h => h) (Or.inl ⟨by rfl, ?_⟩) ?_ ?_
                  rotate_left
                  · intro w'
                    go_simp
                    try with_reducible rfl
                  rotate_left
                  · simp only [Act.put, List.setIfInBounds_toArray, List.set_cons_zero, List.set_cons_succ, i64_w, i32_w]
                    rfl
                  refine take_ (i := 6) (N := (some 61)) (v := ?_) (a' := ?_) #[true, true, true, true, true, true, true, true, true, false, false] rfl rfl (by kernel_rfl) (fun _ _ _ h => h) (Or.inl ⟨by rfl, ?_⟩) hHeld ?_ ?_
                  rotate_left
                  · intro w' s0
                    obtain ⟨s0, s1, s2⟩ := s0
                    go_simp
                    try with_reducible rfl
                  rotate_left
                  · simp only [Act.put, List.setIfInBounds_toArray, List.set_cons_zero, List.set_cons_succ, i64_w, i32_w]
                    rfl
                  refine one_ (i := 9) (N := (some 64)) #[true, true, true, true, true, true, true, true, true, true, false] rfl rfl (by kernel_rfl) (by decide) (fun K hK => ?_)
                  refine goes_ Try.func31 (by kernel_rfl) rfl #[.agg #[.slice (some adb) c.ds.length vc, .slice vB c.bs.length vd], .slice A1 d.f1.length c1, .int .i64 n, .int .i64 (qq : Int), .int .i64 (-1), .int .i64 1] (by rfl) rfl rfl (by (try simp only [List.map_toArray, List.map_cons, List.map_nil]); first | done | rfl) ?_
                  with_reducible refine (HIH.out).mono ?_
                  rintro e w9 ⟨rfl, hb9⟩
                  refine ⟨_, rfl, ?_⟩
                  have HB9 := Aside0.mk (below_then HBD.out HBD.out.size hb9)
                  have HG9 := Aside0.mk ((hb9.block _ (blk_lt HGD.out)).trans HGD.out)
                  refine hK.out _ _ ⟨pw_cell_below hb9 hHeld.1, pw_cell_below hb9 hHeld.2.1, pw_cell_below hb9 hHeld.2.2⟩ (fun hHeld => ?_)
                  clear hb9
                  clear hK K
                  refine norm_ (a' := ?_) ?_ ?_
                  rotate_left
                  · show Act.put _ (some 64) _ = _
                    simp only [Act.put, List.setIfInBounds_toArray, List.set_cons_zero, List.set_cons_succ, i64_w, i32_w]
                    rfl
                  refine pure_ (i := 10) (N := (some 3)) (v := ?_) (a' := ?_) #[true, true, true, true, true, true, true, true, true, true, true] rfl rfl (by kernel_rfl) (fun _ _ _ h => h) (Or.inl ⟨by rfl, ?_⟩) ?_ ?_
                  rotate_left
                  · intro w'
                    go_simp
                    try with_reducible rfl
                  rotate_left
                  · simp only [Act.put, List.setIfInBounds_toArray, List.set_cons_zero, List.set_cons_succ, i64_w, i32_w]
                    rfl
                  refine done_ (by kernel_rfl) ?_
                  generalize wk mayB c.bs qq 9 d.f1 (-1) n 1 = rr at *
                  by_cases hrr : rr < 0
                  · have d2 : decide (rr < 0) = true := decide_eq_true hrr
                    have HF := Aside0.mk (show false = R by rw [← HR2.out, ← HW2.out, if_pos hrr]; exact (decide_eq_false (by omega)).symm)
                    go_wp2
                    go_ret
                    exact ⟨ret_bool HF.out, HB9.out⟩
                  · have d2 : decide (rr < 0) = false := decide_eq_false hrr
                    have HW3 := Aside0.mk ((if_neg hrr).symm.trans HW2.out)
                    go_wp2
                    go_roundw
                    case rel =>
                      refine ⟨qq + 1, rr, by omega, by go_num, rfl, by omega, ⟨?_⟩, HB9, HG9⟩
                      rw [HT.out, List.map_append]
                      exact HW3.out
                    case measure => simp [intOf]; omega
          · obtain rfl : k = c.ds.length := by omega
            have hw := HW.out
            rw [List.drop_length] at hw
            unfold chD at hw
            subst hw
            have HW2 := HR2.out
            by_cases en : n = (c.bs.length : Int)
            · rw [decide_eq_true en] at HW2
              have b1 : (n == (c.bs.length : Int)) = true := by rw [en]; exact beq_self_eq_true _
              have HW3 := Aside0.mk HW2
              clear en HW2 HW
              go_wp2
              go_ret
              exact ⟨ret_bool HW3.out, HB.out⟩
            · rw [decide_eq_false en] at HW2
              have b1 : (n == (c.bs.length : Int)) = false := beq_eq_false_iff_ne.2 en
              have HW3 := Aside0.mk HW2
              clear en HW2 HW
              go_wp2
              go_ret
              exact ⟨ret_bool HW3.out, HB.out⟩
end Go.Proofs.Ytipbigdpannlcaa.Tr
