/- What the law TrieFits uses, thinned: printed by shake2.py. -/
import Derived.Test.YtipbigdpannlcaaTTrieFitsOTS
namespace Go.Proofs.Ytipbigdpannlcaa.Tr
open Go.RowKit Go.Proofs.YtipbigdpannlcaaW.PrintWords Go.Proofs.YtipbigdpannlcaaW.PrintLast Go.Proofs.YtipbigdpannlcaaW.PrintMore Go.Proofs.Ytipbigdpannlcaa.PTrieFits Go.Proofs.Ytipbigdpannlcaa.Pure
set_option maxRecDepth 100000
set_option linter.unusedVariables false
set_option linter.unusedSimpArgs false
abbrev RU := S44
def ruleVal (r : RU) : Value := .agg #[.string r.f0, .int .i64 r.f1, .int .i64 r.f2, .float .f64 r.f3, .bool r.f4, .bool r.f5]
def zR : RU := ⟨⟨#[]⟩, 0, 0, 0, false, false⟩
def ruleV (c : Cfg) (n : Int) : RU × Bool := if 0 ≤ n ∧ n < c.bs.length then ((br c.bs n).f6, (br c.bs n).f5) else (zR, false)
set_option maxHeartbeats 4000000 in
theorem rule_any {w0 w : World} {t : TrV} {c : Cfg} (h : TR w0 w t c) (n : Int) :
    Calls Try.prog 16 #[.pointer (some ⟨t.p, 0, none⟩), .int .i64 n] w fun e w' => e = .returned (.tuple #[ruleVal (ruleV c n).1, .bool (ruleV c n).2]) ∧ Below w.heap.size w w' := by
  have hb0 := below_alloc (Below.refl w.heap.size w) (.cells #[.string ⟨#[]⟩, .int .i64 0, .int .i64 0, .float .f64 0, .bool false, .bool false] 44)
  have HB := Aside0.mk hb0
  have H := Aside0.mk (h.below hb0)
  have hn := Kd.C_max h.l
  have HH := Aside0.mk h
  clear h hb0
  by_cases h1 : n < 0
  · have HV := Aside0.mk (show ruleV c n = (zR, false) by unfold ruleV; rw [if_neg (by omega)])
    have d1 : decide (n < 0) = true := decide_eq_true h1
    go_enter Try.func16, Try.ntmps16
    go_wp2
    refine bodyPost_ret (v := .tuple #[ruleVal zR, .bool false]) (by simp [results, Try.results16, go_sem, ruleVal, zR]) rfl ⟨by rw [HV.out], HB.out⟩
  · have d1 : decide (n < 0) = false := decide_eq_false h1
    by_cases h2 : (c.bs.length : Int) ≤ n
    · have HV := Aside0.mk (show ruleV c n = (zR, false) by unfold ruleV; rw [if_neg (by omega)])
      have d2 : decide ((c.bs.length : Int) ≤ n) = true := decide_eq_true h2
      go_enter Try.func16, Try.ntmps16
      go_wp2_with fail
      (with_reducible refine (size_any H.out).mono ?_); rintro e w3 ⟨rfl, rfl⟩
      go_wp2
      refine bodyPost_ret (v := .tuple #[ruleVal zR, .bool false]) (by simp [results, Try.results16, go_sem, ruleVal, zR]) rfl ⟨by rw [HV.out], HB.out⟩
    · have d2 : decide ((c.bs.length : Int) ≤ n) = false := decide_eq_false h2
      have HV := Aside0.mk (show ruleV c n = ((br c.bs n).f6, (br c.bs n).f5) by unfold ruleV; rw [if_pos (by omega)])
      have p0w := HH.out.c0
      obtain ⟨ad, A12, c12, eb, _, _, _, _, _, q5, q6, q7, q8, q9, q10, q11, _, _, _⟩ := at_T46 HH.out.l n (by omega) (by omega)
      rw [br_rd, br_map _ _ (by omega) (by omega)] at q5 q6 q7 q8 q9 q10 q11
      rw [eb] at p0w
      replace q5 : _ = some (Value.bool (br c.bs n).f5) := q5
      replace q6 : _ = some (Value.string (br c.bs n).f6.f0) := q6
      replace q7 : _ = some (Value.int .i64 (br c.bs n).f6.f1) := q7
      replace q8 : _ = some (Value.int .i64 (br c.bs n).f6.f2) := q8
      replace q9 : _ = some (Value.float .f64 (br c.bs n).f6.f3) := q9
      replace q10 : _ = some (Value.bool (br c.bs n).f6.f4) := q10
      replace q11 : _ = some (Value.bool (br c.bs n).f6.f5) := q11
      clear eb
      generalize br c.bs n = b at *
      have hbw := below_alloc (Below.refl w.heap.size w) (.cells #[.string ⟨#[]⟩, .int .i64 0, .int .i64 0, .float .f64 0, .bool false, .bool false] 44)
      go_enter Try.func16, Try.ntmps16
      go_wp2_with fail
      (with_reducible refine (size_any H.out).mono ?_); rintro e w3 ⟨rfl, rfl⟩
      go_wp2
      have p0 := pw_cell_below hbw p0w
      have k5 := Aside0.mk q5
      replace q5 := pw_cell_below hbw q5
      have k6 := Aside0.mk q6
      replace q6 := pw_cell_below hbw q6
      have k7 := Aside0.mk q7
      replace q7 := pw_cell_below hbw q7
      have k8 := Aside0.mk q8
      replace q8 := pw_cell_below hbw q8
      have k9 := Aside0.mk q9
      replace q9 := pw_cell_below hbw q9
      have k10 := Aside0.mk q10
      replace q10 := pw_cell_below hbw q10
      have k11 := Aside0.mk q11
      replace q11 := pw_cell_below hbw q11
      replace p0w := Aside0.mk p0w
      clear hbw
      refine start_ (n := 18) (S := fun w' => w'.cell? ⟨t.p, 0, none⟩ = some (.slice (some ad) c.bs.length t.lc) ∧ w'.cell? ⟨(ad.add (n.toNat * 13)).block, (ad.add (n.toNat * 13)).off + 5, none⟩ = some (.bool b.f5) ∧ w'.cell? ⟨(ad.add (n.toNat * 13)).block, (ad.add (n.toNat * 13)).off + 6, none⟩ = some (.string b.f6.f0) ∧ w'.cell? ⟨(ad.add (n.toNat * 13)).block, (ad.add (n.toNat * 13)).off + 7, none⟩ = some (.int .i64 b.f6.f1) ∧ w'.cell? ⟨(ad.add (n.toNat * 13)).block, (ad.add (n.toNat * 13)).off + 8, none⟩ = some (.int .i64 b.f6.f2) ∧ w'.cell? ⟨(ad.add (n.toNat * 13)).block, (ad.add (n.toNat * 13)).off + 9, none⟩ = some (.float .f64 b.f6.f3) ∧ w'.cell? ⟨(ad.add (n.toNat * 13)).block, (ad.add (n.toNat * 13)).off + 10, none⟩ = some (.bool b.f6.f4) ∧ w'.cell? ⟨(ad.add (n.toNat * 13)).block, (ad.add (n.toNat * 13)).off + 11, none⟩ = some (.bool b.f6.f5)) (ds := []) #[false, false, false, false, false, false, false, false, false, false, false, false, false, false, false, false, false, false] (by kernel_rfl) rfl rfl (⟨p0, q5, q6, q7, q8, q9, q10, q11⟩) (fun hHeld => ?_)
      refine pure_ (i := 0) (N := (some 15)) (v := ?_) (a' := ?_) #[true, false, false, false, false, false, false, false, false, false, false, false, false, false, false, false, false, false] rfl rfl (by kernel_rfl) (fun _ _ _ h => h) (Or.inl ⟨by rfl, ?_⟩) ?_ ?_
      rotate_left
      · intro w'
        go_simp
        try with_reducible rfl
      rotate_left
      · simp only [Act.put, List.setIfInBounds_toArray, List.set_cons_zero, List.set_cons_succ, i64_w, i32_w]
        rfl
      refine pure_ (i := 1) (N := (some 16)) (v := ?_) (a' := ?_) #[true, true, false, false, false, false, false, false, false, false, false, false, false, false, false, false, false, false] rfl rfl (by kernel_rfl) (fun _ _ _ h => h) (Or.inl ⟨by rfl, ?_⟩) ?_ ?_
      rotate_left
      · intro w'
        go_simp
        try with_reducible rfl
      rotate_left
      · simp only [Act.put, List.setIfInBounds_toArray, List.set_cons_zero, List.set_cons_succ, i64_w, i32_w]
        rfl
      refine pure_ (i := 2) (N := (some 17)) (v := ?_) (a' := ?_) #[true, true, true, false, false, false, false, false, false, false, false, false, false, false, false, false, false, false] rfl rfl (by kernel_rfl) (fun _ _ _ h => h) (Or.inl ⟨by rfl, ?_⟩) ?_ ?_
      rotate_left
      · intro w'
        go_simp
        try with_reducible rfl
      rotate_left
      · simp only [Act.put, List.setIfInBounds_toArray, List.set_cons_zero, List.set_cons_succ, i64_w, i32_w]
        rfl
      refine pure_ (i := 4) (N := (some 19)) (v := ?_) (a' := ?_) #[true, true, true, false, true, false, false, false, false, false, false, false, false, false, false, false, false, false] rfl rfl (by kernel_rfl) (fun _ _ _ h => h) (Or.inl ⟨by rfl, ?_⟩) ?_ ?_
      rotate_left
      · intro w'
        go_simp
        try with_reducible rfl
      rotate_left
      · simp only [Act.put, List.setIfInBounds_toArray, List.set_cons_zero, List.set_cons_succ, i64_w, i32_w]
        rfl
      refine pure_ (i := 8) (N := (some 23)) (v := ?_) (a' := ?_) #[true, true, true, false, true, false, false, false, true, false, false, false, false, false, false, false, false, false] rfl rfl (by kernel_rfl) (fun _ _ _ h => h) (Or.inl ⟨by rfl, ?_⟩) ?_ ?_
      rotate_left
      · intro w'
        go_simp
        try with_reducible rfl
      rotate_left
      · simp only [Act.put, List.setIfInBounds_toArray, List.set_cons_zero, List.set_cons_succ, i64_w, i32_w]
        rfl
      refine pure_ (i := 9) (N := (some 24)) (v := ?_) (a' := ?_) #[true, true, true, false, true, false, false, false, true, true, false, false, false, false, false, false, false, false] rfl rfl (by kernel_rfl) (fun _ _ _ h => h) (Or.inl ⟨by rfl, ?_⟩) ?_ ?_
      rotate_left
      · intro w'
        go_simp
        try with_reducible rfl
      rotate_left
      · simp only [Act.put, List.setIfInBounds_toArray, List.set_cons_zero, List.set_cons_succ, i64_w, i32_w]
        rfl
      refine pure_ (i := 10) (N := (some 25)) (v := ?_) (a' := ?_) #[true, true, true, false, true, false, false, false, true, true, true, false, false, false, false, false, false, false] rfl rfl (by kernel_rfl) (fun _ _ _ h => h) (Or.inl ⟨by rfl, ?_⟩) ?_ ?_
      rotate_left
      · intro w'
        go_simp
        try with_reducible rfl
      rotate_left
      · simp only [Act.put, List.setIfInBounds_toArray, List.set_cons_zero, List.set_cons_succ, i64_w, i32_w]
        rfl
      refine pure_ (i := 12) (N := (some 27)) (v := ?_) (a' := ?_) #[true, true, true, false, true, false, false, false, true, true, true, false, true, false, false, false, false, false] rfl rfl (by kernel_rfl) (fun _ _ _ h => h) (Or.inl ⟨by rfl, ?_⟩) ?_ ?_
      rotate_left
      · intro w'
        go_simp
        try with_reducible rfl
      rotate_left
      · simp only [Act.put, List.setIfInBounds_toArray, List.set_cons_zero, List.set_cons_succ, i64_w, i32_w]
        rfl
      refine take_ (i := 3) (N := (some 18)) (v := ?_) (a' := ?_) #[true, true, true, true, true, false, false, false, true, true, true, false, true, false, false, false, false, false] rfl rfl (by kernel_rfl) (fun _ _ _ h => h) (Or.inl ⟨by rfl, ?_⟩) hHeld ?_ ?_
      rotate_left
      · intro w' s0
        obtain ⟨s0, s1, s2, s3, s4, s5, s6, s7⟩ := s0
        go_simp
        try with_reducible rfl
      rotate_left
      · simp only [Act.put, List.setIfInBounds_toArray, List.set_cons_zero, List.set_cons_succ, i64_w, i32_w]
        rfl
      refine pure_ (i := 5) (N := (some 20)) (v := ?_) (a' := ?_) #[true, true, true, true, true, true, false, false, true, true, true, false, true, false, false, false, false, false] rfl rfl (by kernel_rfl) (fun _ _ _ h => h) (Or.inl ⟨by rfl, ?_⟩) ?_ ?_
      rotate_left
      · intro w'
        go_simp
        try with_reducible rfl
      rotate_left
      · simp only [Act.put, List.setIfInBounds_toArray, List.set_cons_zero, List.set_cons_succ, i64_w, i32_w]
        rfl
      refine pure_ (i := 6) (N := (some 21)) (v := ?_) (a' := ?_) #[true, true, true, true, true, true, true, false, true, true, true, false, true, false, false, false, false, false] rfl rfl (by kernel_rfl) (fun _ _ _ h => h) (Or.inl ⟨by rfl, ?_⟩) ?_ ?_
      rotate_left
      · intro w'
        go_simp
        try with_reducible rfl
      rotate_left
      · simp only [Act.put, List.setIfInBounds_toArray, List.set_cons_zero, List.set_cons_succ, i64_w, i32_w]
        rfl
      refine take_ (i := 7) (N := (some 22)) (v := ?_) (a' := ?_) #[true, true, true, true, true, true, true, true, true, true, true, false, true, false, false, false, false, false] rfl rfl (by kernel_rfl) (fun _ _ _ h => h) (Or.inl ⟨by rfl, ?_⟩) hHeld ?_ ?_
      rotate_left
      · intro w' s0
        obtain ⟨s0, s1, s2, s3, s4, s5, s6, s7⟩ := s0
        go_simp
        try with_reducible rfl
      rotate_left
      · simp only [Act.put, List.setIfInBounds_toArray, List.set_cons_zero, List.set_cons_succ, i64_w, i32_w]
        rfl
      refine take_ (i := 11) (N := (some 26)) (v := ?_) (a' := ?_) #[true, true, true, true, true, true, true, true, true, true, true, true, true, false, false, false, false, false] rfl rfl (by kernel_rfl) (fun _ _ _ h => h) (Or.inl ⟨by rfl, ?_⟩) hHeld ?_ ?_
      rotate_left
      · intro w' s0
        obtain ⟨s0, s1, s2, s3, s4, s5, s6, s7⟩ := s0
        go_simp
        try with_reducible rfl
      rotate_left
      · simp only [Act.put, List.setIfInBounds_toArray, List.set_cons_zero, List.set_cons_succ, i64_w, i32_w]
        rfl
      refine pure_ (i := 13) (N := (some 28)) (v := ?_) (a' := ?_) #[true, true, true, true, true, true, true, true, true, true, true, true, true, true, false, false, false, false] rfl rfl (by kernel_rfl) (fun _ _ _ h => h) (Or.inl ⟨by rfl, ?_⟩) ?_ ?_
      rotate_left
      · intro w'
        go_simp
        try with_reducible rfl
      rotate_left
      · simp only [Act.put, List.setIfInBounds_toArray, List.set_cons_zero, List.set_cons_succ, i64_w, i32_w]
        rfl
      refine pure_ (i := 14) (N := (some 29)) (v := ?_) (a' := ?_) #[true, true, true, true, true, true, true, true, true, true, true, true, true, true, true, false, false, false] rfl rfl (by kernel_rfl) (fun _ _ _ h => h) (Or.inl ⟨by rfl, ?_⟩) ?_ ?_
      rotate_left
      · intro w'
        go_simp
        try with_reducible rfl
      rotate_left
      · simp only [Act.put, List.setIfInBounds_toArray, List.set_cons_zero, List.set_cons_succ, i64_w, i32_w]
        rfl
      refine take_ (i := 15) (N := (some 30)) (v := ?_) (a' := ?_) #[true, true, true, true, true, true, true, true, true, true, true, true, true, true, true, true, false, false] rfl rfl (by kernel_rfl) (fun _ _ _ h => h) (Or.inl ⟨by rfl, ?_⟩) hHeld ?_ ?_
      rotate_left
      · intro w' s0
        obtain ⟨s0, s1, s2, s3, s4, s5, s6, s7⟩ := s0
        go_simp
        try with_reducible rfl
      rotate_left
      · simp only [Act.put, List.setIfInBounds_toArray, List.set_cons_zero, List.set_cons_succ, i64_w, i32_w]
        rfl
      refine one_ (i := 16) (N := none) #[true, true, true, true, true, true, true, true, true, true, true, true, true, true, true, true, true, false] rfl rfl (by kernel_rfl) (by decide) (fun K hK => ?_)
      refine skip_ (w1 := ?_) (by rfl) rfl ?_ ?_
      rotate_left
      · go_simp
        rfl
      refine hK.out _ _ (⟨pw_cell_below (below_drew (below_alloc (Below.refl _ _) _)) p0w.out, pw_cell_below (below_drew (below_alloc (Below.refl _ _) _)) k5.out, pw_cell_below (below_drew (below_alloc (Below.refl _ _) _)) k6.out, pw_cell_below (below_drew (below_alloc (Below.refl _ _) _)) k7.out, pw_cell_below (below_drew (below_alloc (Below.refl _ _) _)) k8.out, pw_cell_below (below_drew (below_alloc (Below.refl _ _) _)) k9.out, pw_cell_below (below_drew (below_alloc (Below.refl _ _) _)) k10.out, pw_cell_below (below_drew (below_alloc (Below.refl _ _) _)) k11.out⟩) (fun hHeld => ?_)
      clear hK K
      refine pure_ (i := 17) (N := (some 5)) (v := ?_) (a' := ?_) #[true, true, true, true, true, true, true, true, true, true, true, true, true, true, true, true, true, true] rfl rfl (by kernel_rfl) (fun _ _ _ h => h) (Or.inl ⟨by rfl, ?_⟩) ?_ ?_
      rotate_left
      · intro w'
        go_simp
        try with_reducible rfl
      rotate_left
      · simp only [Act.put, List.setIfInBounds_toArray, List.set_cons_zero, List.set_cons_succ, i64_w, i32_w]
        rfl
      refine done_ (by kernel_rfl) ?_
      go_wp2
      have HBF := Aside0.mk (below_drew (below_alloc (Below.refl w.heap.size w) (.cells #[.string b.f6.f0, .int .i64 b.f6.f1, .int .i64 b.f6.f2, .float .f64 b.f6.f3, .bool b.f6.f4, .bool b.f6.f5] 44)))
      refine bodyPost_ret (v := .tuple #[ruleVal b.f6, .bool b.f5]) (by simp [results, Try.results16, go_sem, ruleVal]) rfl ⟨by rw [HV.out], HBF.out⟩
end Go.Proofs.Ytipbigdpannlcaa.Tr
