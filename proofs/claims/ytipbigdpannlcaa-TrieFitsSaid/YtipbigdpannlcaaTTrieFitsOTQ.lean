/- What the law TrieFits uses, thinned: printed by shake2.py. -/
import Derived.Test.YtipbigdpannlcaaTTrieFitsOTY
import Derived.Test.YtipbigdpannlcaaTTrieFitsOTD
namespace Go.Proofs.Ytipbigdpannlcaa.Tr
open Go.RowKit Go.Proofs.YtipbigdpannlcaaW.PrintWords Go.Proofs.YtipbigdpannlcaaW.PrintLast Go.Proofs.YtipbigdpannlcaaW.PrintMore Go.Proofs.Ytipbigdpannlcaa.PTrieFits Go.Proofs.Ytipbigdpannlcaa.Pure
set_option maxRecDepth 100000
set_option linter.unusedVariables false
set_option linter.unusedSimpArgs false
section
variable {w0 w : World} {t : TrV} {c : Cfg}
theorem TR.c0 (h : TR w0 w t c) : w.cell? ⟨t.p, 0, none⟩ = some (.slice t.LA c.bs.length t.lc) := (blk_cell h.hd 0).trans rfl
theorem TR.c1 (h : TR w0 w t c) : w.cell? ⟨t.p, 1, none⟩ = some (.slice t.NA c.ds.length t.nc) := (blk_cell h.hd 1).trans rfl
theorem TR.c2 (h : TR w0 w t c) : w.cell? ⟨t.p, 2, none⟩ = some (.map (some t.tb)) := (blk_cell h.hd 2).trans rfl
theorem TR.c3 (h : TR w0 w t c) : w.cell? ⟨t.p, 3, none⟩ = some (.map (some t.wb)) := (blk_cell h.hd 3).trans rfl
theorem size_any (h : TR w0 w t c) : Calls Try.prog 17 #[.pointer (some ⟨t.p, 0, none⟩)] w fun e w' => e = .returned (.int .i64 c.bs.length) ∧ w = w' := by
  have c0 := h.c0
  clear h
  go_enter Try.func17, Try.ntmps17
  go_wp2
  go_ret
  exact ⟨rfl, rfl⟩
theorem size_nil (w : World) : Calls Try.prog 17 #[.pointer none] w fun e w' => e = .returned (.int .i64 0) ∧ w = w' := by
  go_enter Try.func17, Try.ntmps17
  go_wp2
  go_ret
  exact ⟨rfl, rfl⟩
end
theorem check_desc {w : World} {A : Option Addr} {cd : Nat} {l : List EN} (hk : kE.C w A l.length l) (hl : l.length ≤ cd) (hx : ∀ x ∈ l, x.f0.size ≤ 9000000000000000000) (hn : l.length ≤ 9000000000000000000) :
    Calls Try.prog 26 #[.agg #[.slice A l.length cd]] w fun e w' => e = .returned (.int .i64 (if ck l = true then 0 else 1)) ∧ Below w.heap.size w w' := by
  obtain ⟨K, hK⟩ := check_ev l hn hx
  exact desc_Check.calls K A cd l _ w hk hl (hK K (Nat.le_refl _))
noncomputable def matchP (W : List (Step × Int)) : Int → List EN → Option Int
  | at_, [] => some at_
  | at_, e :: r => if hasK W ⟨at_, e.f0, e.f1, false⟩ = true then matchP W (getK 0 W ⟨at_, e.f0, e.f1, false⟩) r
    else if hasK W ⟨at_, e.f0, ⟨#[]⟩, true⟩ = true then matchP W (getK 0 W ⟨at_, e.f0, ⟨#[]⟩, true⟩) r else none
noncomputable def matchV (c : Cfg) (dom : ByteArray) (d : List EN) : Option Int :=
  if ck d = true then (if hasK (topsK c.ds c.ds.length) dom = true then matchP (waysK c.bs c.bs.length) (getK 0 (topsK c.ds c.ds.length) dom) d else none) else none
def outV : Option Int → Value
  | some k => .tuple #[.int .i64 k, .bool true]
  | none => .tuple #[.int .i64 0, .bool false]
theorem topsK_val (ds : List DO) (s : ByteArray) : ∀ n : Nat, -(n : Int) ≤ getK 0 (topsK ds n) s ∧ getK 0 (topsK ds n) s ≤ 0
  | 0 => by simp [topsK, getK]
  | n + 1 => by
    have ih := topsK_val ds s n
    have hnd : ∀ n, ND (topsK ds n) := by
      intro n
      induction n with
      | zero => exact List.nodup_nil
      | succ n ih => unfold topsK; exact ih.put _ _
    by_cases h : hasK (topsK ds (n + 1)) s = true
    · obtain ⟨x, hx, rfl⟩ := (hasK_iff _ _).1 h
      have e := getK_of (z := (0 : Int)) (hnd (n + 1)) hx
      rw [e]
      unfold topsK at hx
      rcases List.mem_cons.1 hx with rfl | hx
      · constructor <;> dsimp only <;> omega
      · have h2 := mem_dropK.1 hx
        have e2 := getK_of (z := (0 : Int)) (hnd n) h2.1
        have ih2 := topsK_val ds x.1 n
        rw [e2] at ih2
        omega
    · rw [getK_no (Bool.eq_false_iff.2 h)]
      omega
theorem waysK_nd (bs : List BR) : ∀ n, ND (waysK bs n)
  | 0 => List.nodup_nil
  | n + 1 => by unfold waysK; exact (waysK_nd bs n).put _ _
theorem topsK_nd (ds : List DO) : ∀ n, ND (topsK ds n)
  | 0 => List.nodup_nil
  | n + 1 => by unfold topsK; exact (topsK_nd ds n).put _ _
theorem waysK_mem (bs : List BR) : ∀ n, ∀ x ∈ waysK bs n, ∃ j : Nat, j < n ∧ x = (stepOf (br bs j), (j : Int))
  | 0, x, hx => by simp [waysK] at hx
  | n + 1, x, hx => by
    unfold waysK at hx
    rcases List.mem_cons.1 hx with rfl | hx
    · exact ⟨n, by omega, rfl⟩
    · obtain ⟨j, hj, e⟩ := waysK_mem bs n x (mem_dropK.1 hx).1
      exact ⟨j, by omega, e⟩
theorem waysK_val (bs : List BR) (s : Step) (n : Nat) : 0 ≤ getK 0 (waysK bs n) s ∧ getK 0 (waysK bs n) s ≤ n := by
  by_cases h : hasK (waysK bs n) s = true
  · obtain ⟨x, hx, rfl⟩ := (hasK_iff _ _).1 h
    rw [getK_of (waysK_nd bs n) hx]
    obtain ⟨j, hj, rfl⟩ := waysK_mem bs n x hx
    constructor <;> dsimp only <;> omega
  · rw [getK_no (Bool.eq_false_iff.2 h)]; omega
theorem getD_en {l : List EN} {k : Nat} (h : k < l.length) : l.getD k z48 ∈ l ∧ l.drop k = l.getD k z48 :: l.drop (k + 1) := by
  have e : l.getD k z48 = l[k] := by rw [List.getD_eq_getElem?_getD, List.getElem?_eq_getElem h]; rfl
  rw [e]
  exact ⟨List.getElem_mem h, List.drop_eq_getElem_cons h⟩
set_option maxHeartbeats 4000000 in
theorem match_any {w0 w : World} {t : TrV} {c : Cfg} (h : TR w0 w t c) (hds : c.ds.length ≤ 16) (hbs : c.bs.length ≤ 500) (dom : ByteArray) (hdom : dom.size ≤ maxLen) {A : Option Addr} {cd : Nat} {l : List EN} (hk : kE.C w A l.length l) (hl : l.length ≤ cd) (hx : ∀ x ∈ l, x.f0.size ≤ 9000000000000000000) (hn : l.length ≤ 9000000000000000000) :
    Calls Try.prog 10 #[.pointer (some ⟨t.p, 0, none⟩), .string dom, .agg #[.slice A l.length cd]] w fun e w' => e = .returned (outV (matchV c dom l)) ∧ Below w.heap.size w w' := by
  have hb0 := below_alloc (Below.refl w.heap.size w) (.cells #[.slice A l.length cd] 35)
  have hx0 := blk_new w (.cells #[.slice A l.length cd] 35)
  have HCK := Aside0.mk (check_desc (w := w.alloc (.cells #[.slice A l.length cd] 35)) (Kd.C_alloc hk _) hl hx hn)
  have H := Aside0.mk h
  have HB0 := Aside0.mk hb0
  have HX0 := Aside0.mk hx0
  have HK := Aside0.mk hk
  have HXX := Aside0.mk hx
  have HD := Aside0.mk hdom
  clear h hb0 hx0 hk hx hdom
  cases ec : ck l with
  | false =>
    have HV := Aside0.mk (show matchV c dom l = none by unfold matchV; rw [ec]; rfl)
    rw [ec] at HCK
    clear ec
    go_enter Try.func10, Try.ntmps10
    go_wp2_with fail
    (with_reducible refine (HCK.out).mono ?_); rintro e w3 ⟨rfl, hb3⟩
    have HB3 := Aside0.mk (below_then HB0.out HB0.out.size hb3)
    clear hb3
    go_wp2
    go_ret2
    exact ⟨by rw [HV.out]; rfl, HB3.out⟩
  | true =>
    have HS := Aside0.mk (ck_size HXX.out ec)
    have HV := Aside0.mk (show matchV c dom l = (if hasK (topsK c.ds c.ds.length) dom = true then matchP (waysK c.bs c.bs.length) (getK 0 (topsK c.ds c.ds.length) dom) l else none) by unfold matchV; rw [ec]; rfl)
    rw [ec] at HCK
    obtain ⟨r, hr⟩ : ∃ r, r = matchV c dom l := ⟨_, rfl⟩
    rw [← hr] at HV
    rw [← hr]
    have HR := Aside0.mk HV.out.symm
    clear ec hr HV
    go_enter Try.func10, Try.ntmps10
    go_wp2_with fail
    (with_reducible refine (HCK.out).mono ?_); rintro e w3 ⟨rfl, hb3⟩
    have HB3 := Aside0.mk (below_then HB0.out HB0.out.size hb3)
    have HX3 := Aside0.mk ((hb3.block _ (blk_lt HX0.out)).trans HX0.out)
    have H3 := Aside0.mk (H.out.below HB3.out)
    have c2 := H3.out.c2
    have x0 : w3.cell? ⟨w.heap.size, 0, none⟩ = some (.slice A l.length cd) := (blk_cell HX3.out 0).trans rfl
    have hlk := lookSI H3.out.tops HD.out
    have tv := topsK_val c.ds dom c.ds.length
    clear hb3 HCK HB0 HX0
    generalize getK 0 (topsK c.ds c.ds.length) dom = a0 at *
    generalize hasK (topsK c.ds c.ds.length) dom = o0 at *
    go_wp2
    have HTV := Aside0.mk (show -17 ≤ a0 ∧ a0 ≤ 500 by omega)
    clear c2 x0 hlk tv
    have hln : l.length ≤ 9000000000000000000 := hn
    go_loopw [8, 9, 33] (fun a o i wr => ∃ (k : Nat) (at_ : Int) (ok : Bool), k ≤ l.length ∧ i = .int .i64 k ∧ a = .int .i64 at_ ∧ o = .bool ok ∧ Aside0 (-17 ≤ at_ ∧ at_ ≤ 500) ∧ Aside0 ((if ok = true then matchP (waysK c.bs c.bs.length) at_ (l.drop k) else none) = r) ∧ Aside0 (Below w.heap.size w wr)) (fun _ _ i _ => l.length - (intOf i).toNat)
    case atStart => exact ⟨0, a0, o0, Nat.zero_le _, rfl, rfl, rfl, HTV, by simpa using HR, HB3⟩
    case round =>
      obtain ⟨k, at_, ok, hkl, rfl, rfl, rfl, HA, HW, HB⟩ := hrel
      clear HR HTV HB3
      by_cases hlt : k < l.length
      · obtain ⟨ad, eb, q0, q1⟩ := at_T48 HK.out (k : Int) (by omega) (by omega)
        obtain rfl : A = some ad := eb
        have er : rd_T48 l (k : Int) = l.getD k z48 := by unfold rd_T48; rw [Int.toNat_natCast]
        rw [er] at q0 q1
        rw [Int.toNat_natCast] at q0 q1
        replace q0 := pw_cell_below HB.out q0
        replace q1 := pw_cell_below HB.out q1
        obtain ⟨m1, m2⟩ := getD_en hlt
        have HSZ := Aside0.mk ((HS.out.2.2) _ m1)
        have hw := HW.out
        rw [m2] at hw
        clear m1 m2 er HW
        generalize l.getD k z48 = e at *
        have d4 : decide (k < l.length) = true := decide_eq_true hlt
        have hb1 := below_alloc HB.out (.cells #[.string e.f0, .string e.f1] 48)
        have HT1 := Aside0.mk (H.out.below hb1)
        have HX0 := Aside0.mk (blk_new wr (.cells #[.string e.f0, .string e.f1] 48))
        have HB1 := Aside0.mk hb1
        clear hb1
        cases ok with
        | false =>
          rw [if_neg (by decide)] at hw
          have HW := Aside0.mk hw
          clear hw
          go_wp2
          go_ret2
          exact ⟨by rw [← HW.out]; rfl, HB1.out⟩
        | true =>
          rw [if_pos rfl] at hw
          unfold matchP at hw
          have hg1 : Step.Good ⟨at_, e.f0, e.f1, false⟩ := goodS (by have := HA.out; omega) (by have := HA.out; omega) (by have := HSZ.out; omega) (by have := HSZ.out; omega)
          have hg2 : Step.Good ⟨at_, e.f0, ⟨#[]⟩, true⟩ := goodS (by have := HA.out; omega) (by have := HA.out; omega) (by have := HSZ.out; omega) (by show (0 : Nat) ≤ _; omega)
          have hv1 := waysK_val c.bs ⟨at_, e.f0, e.f1, false⟩ c.bs.length
          have hv2 := waysK_val c.bs ⟨at_, e.f0, ⟨#[]⟩, true⟩ c.bs.length
          have HG1 := Aside0.mk (fun (W : World) (hW : TR w0 W t c) => (show (Instr.lookup 68 (.map (some t.wb)) (.agg #[.int .i64 at_, .string e.f0, .string e.f1, .bool false]) true).run Try.prog W = .ok (.tuple #[.int .i64 (getK 0 (waysK c.bs c.bs.length) ⟨at_, e.f0, e.f1, false⟩), .bool (hasK (waysK c.bs c.bs.length) ⟨at_, e.f0, e.f1, false⟩)]) W from lookWI hW.ways hg1))
          have HG2 := Aside0.mk (fun (W : World) (hW : TR w0 W t c) => (show (Instr.lookup 68 (.map (some t.wb)) (.agg #[.int .i64 at_, .string e.f0, .string ⟨#[]⟩, .bool true]) true).run Try.prog W = .ok (.tuple #[.int .i64 (getK 0 (waysK c.bs c.bs.length) ⟨at_, e.f0, ⟨#[]⟩, true⟩), .bool (hasK (waysK c.bs c.bs.length) ⟨at_, e.f0, ⟨#[]⟩, true⟩)]) W from lookWI hW.ways hg2))
          have HW := Aside0.mk hw
          clear hg1 hg2 hw
          generalize getK 0 (waysK c.bs c.bs.length) ⟨at_, e.f0, e.f1, false⟩ = n1 at *
          generalize getK 0 (waysK c.bs c.bs.length) ⟨at_, e.f0, ⟨#[]⟩, true⟩ = n2 at *
          generalize hasK (waysK c.bs c.bs.length) ⟨at_, e.f0, e.f1, false⟩ = o1 at *
          generalize hasK (waysK c.bs c.bs.length) ⟨at_, e.f0, ⟨#[]⟩, true⟩ = o2 at *
          have HV1 := Aside0.mk (show -17 ≤ n1 ∧ n1 ≤ 500 by omega)
          have HV2 := Aside0.mk (show -17 ≤ n2 ∧ n2 ≤ 500 by omega)
          have hsz : (wr.alloc (.cells #[.string e.f0, .string e.f1] 48)).heap.size = wr.heap.size + 1 := by simp
          clear hv1 hv2
          cases o1 with
          | true =>
            go_wp2
            generalize hW1 : wr.alloc (.cells #[.string e.f0, .string e.f1] 48) = W1 at *
            generalize hxb : wr.heap.size = xb at *
            clear hW1 hxb hsz q0 q1
            have HT2 := Aside0.mk (HT1.out.below (below_drew (Below.refl _ _)))
            have HX1 := Aside0.mk (show W1.drew.heap[xb]? = some (.cells #[.string e.f0, .string e.f1] 48 (0, 0)) from HX0.out)
            have HB2 := Aside0.mk (below_drew HB1.out)
            have hlk := HG1.out _ HT2.out
            refine start_ (n := 16) (S := fun w' => w'.cell? ⟨t.p, 3, none⟩ = some (.map (some t.wb)) ∧ w'.cell? ⟨xb, 0, none⟩ = some (.string e.f0) ∧ w'.cell? ⟨xb, 1, none⟩ = some (.string e.f1)) (ds := []) #[false, false, false, false, false, false, false, false, false, false, false, false, false, false, false, false] (by kernel_rfl) rfl rfl (⟨HT2.out.c3, (blk_cell HX1.out 0).trans rfl, (blk_cell HX1.out 1).trans rfl⟩) (fun hHeld => ?_)
            generalize W1.drew = W2 at *
            refine pure_ (i := 0) (N := (some 40)) (v := ?_) (a' := ?_) #[true, false, false, false, false, false, false, false, false, false, false, false, false, false, false, false] rfl rfl (by kernel_rfl) (fun _ _ _ h => h) (Or.inl ⟨by rfl, ?_⟩) ?_ ?_
            rotate_left
            · intro w'
              go_simp
              try with_reducible rfl
            rotate_left
            · simp only [Act.put, List.setIfInBounds_toArray, List.set_cons_zero, List.set_cons_succ, i64_w, i32_w]
              rfl
            refine pure_ (i := 1) (N := (some 41)) (v := ?_) (a' := ?_) #[true, true, false, false, false, false, false, false, false, false, false, false, false, false, false, false] rfl rfl (by kernel_rfl) (fun _ _ _ h => h) (Or.inl ⟨by rfl, ?_⟩) ?_ ?_
            rotate_left
            · intro w'
              go_simp
              try with_reducible rfl
            rotate_left
            · simp only [Act.put, List.setIfInBounds_toArray, List.set_cons_zero, List.set_cons_succ, i64_w, i32_w]
              rfl
            refine pure_ (i := 2) (N := (some 42)) (v := ?_) (a' := ?_) #[true, true, true, false, false, false, false, false, false, false, false, false, false, false, false, false] rfl rfl (by kernel_rfl) (fun _ _ _ h => h) (Or.inl ⟨by rfl, ?_⟩) ?_ ?_
            rotate_left
            · intro w'
              go_simp
              try with_reducible rfl
            rotate_left
            · simp only [Act.put, List.setIfInBounds_toArray, List.set_cons_zero, List.set_cons_succ, i64_w, i32_w]
              rfl
            refine pure_ (i := 4) (N := (some 44)) (v := ?_) (a' := ?_) #[true, true, true, false, true, false, false, false, false, false, false, false, false, false, false, false] rfl rfl (by kernel_rfl) (fun _ _ _ h => h) (Or.inl ⟨by rfl, ?_⟩) ?_ ?_
            rotate_left
            · intro w'
              go_simp
              try with_reducible rfl
            rotate_left
            · simp only [Act.put, List.setIfInBounds_toArray, List.set_cons_zero, List.set_cons_succ, i64_w, i32_w]
              rfl
            refine pure_ (i := 5) (N := (some 45)) (v := ?_) (a' := ?_) #[true, true, true, false, true, true, false, false, false, false, false, false, false, false, false, false] rfl rfl (by kernel_rfl) (fun _ _ _ h => h) (Or.inl ⟨by rfl, ?_⟩) ?_ ?_
            rotate_left
            · intro w'
              go_simp
              try with_reducible rfl
            rotate_left
            · simp only [Act.put, List.setIfInBounds_toArray, List.set_cons_zero, List.set_cons_succ, i64_w, i32_w]
              rfl
            refine pure_ (i := 7) (N := (some 47)) (v := ?_) (a' := ?_) #[true, true, true, false, true, true, false, true, false, false, false, false, false, false, false, false] rfl rfl (by kernel_rfl) (fun _ _ _ h => h) (Or.inl ⟨by rfl, ?_⟩) ?_ ?_
            rotate_left
            · intro w'
              go_simp
              try with_reducible rfl
            rotate_left
            · simp only [Act.put, List.setIfInBounds_toArray, List.set_cons_zero, List.set_cons_succ, i64_w, i32_w]
              rfl
            refine take_ (i := 3) (N := (some 43)) (v := ?_) (a' := ?_) #[true, true, true, true, true, true, false, true, false, false, false, false, false, false, false, false] rfl rfl (by kernel_rfl) (fun _ _ _ h => h) (Or.inl ⟨by rfl, ?_⟩) hHeld ?_ ?_
            rotate_left
            · intro w' s0
              obtain ⟨s0, s1, s2⟩ := s0
              go_simp
              try with_reducible rfl
            rotate_left
            · simp only [Act.put, List.setIfInBounds_toArray, List.set_cons_zero, List.set_cons_succ, i64_w, i32_w]
              rfl
            refine take_ (i := 6) (N := (some 46)) (v := ?_) (a' := ?_) #[true, true, true, true, true, true, true, true, false, false, false, false, false, false, false, false] rfl rfl (by kernel_rfl) (fun _ _ _ h => h) (Or.inl ⟨by rfl, ?_⟩) hHeld ?_ ?_
            rotate_left
            · intro w' s0
              obtain ⟨s0, s1, s2⟩ := s0
              go_simp
              try with_reducible rfl
            rotate_left
            · simp only [Act.put, List.setIfInBounds_toArray, List.set_cons_zero, List.set_cons_succ, i64_w, i32_w]
              rfl
            refine take_ (i := 8) (N := (some 48)) (v := ?_) (a' := ?_) #[true, true, true, true, true, true, true, true, true, false, false, false, false, false, false, false] rfl rfl (by kernel_rfl) (fun _ _ _ h => h) (Or.inl ⟨by rfl, ?_⟩) hHeld ?_ ?_
            rotate_left
            · intro w' s0
              obtain ⟨s0, s1, s2⟩ := s0
              go_simp
              try with_reducible rfl
            rotate_left
            · simp only [Act.put, List.setIfInBounds_toArray, List.set_cons_zero, List.set_cons_succ, i64_w, i32_w]
              rfl
            refine pure_ (i := 9) (N := (some 49)) (v := ?_) (a' := ?_) #[true, true, true, true, true, true, true, true, true, true, false, false, false, false, false, false] rfl rfl (by kernel_rfl) (fun _ _ _ h => h) (Or.inl ⟨by rfl, ?_⟩) ?_ ?_
            rotate_left
            · intro w'
              go_simp
              try with_reducible rfl
            rotate_left
            · simp only [Act.put, List.setIfInBounds_toArray, List.set_cons_zero, List.set_cons_succ, i64_w, i32_w]
              rfl
            refine one_ (i := 10) (N := (some 50)) #[true, true, true, true, true, true, true, true, true, true, true, false, false, false, false, false] rfl rfl (by kernel_rfl) (by decide) (fun K hK => ?_)
            refine value_ (w1 := ?_) (v := ?_) (by rfl) rfl ?_ ?_
            rotate_left 2
            · go_simp
              constructor
              · rfl
              · rfl
            refine hK.out _ _ hHeld (fun hHeld => ?_)
            clear hK K
            refine norm_ (a' := ?_) ?_ ?_
            rotate_left
            · show Act.put _ (some 50) _ = _
              simp only [Act.put, List.setIfInBounds_toArray, List.set_cons_zero, List.set_cons_succ, i64_w, i32_w]
              rfl
            refine pure_ (i := 11) (N := (some 39)) (v := ?_) (a' := ?_) #[true, true, true, true, true, true, true, true, true, true, true, true, false, false, false, false] rfl rfl (by kernel_rfl) (fun _ _ _ h => h) (Or.inl ⟨by rfl, ?_⟩) ?_ ?_
            rotate_left
            · intro w'
              go_simp
              try with_reducible rfl
            rotate_left
            · simp only [Act.put, List.setIfInBounds_toArray, List.set_cons_zero, List.set_cons_succ, i64_w, i32_w]
              rfl
            refine pure_ (i := 12) (N := (some 51)) (v := ?_) (a' := ?_) #[true, true, true, true, true, true, true, true, true, true, true, true, true, false, false, false] rfl rfl (by kernel_rfl) (fun _ _ _ h => h) (Or.inl ⟨by rfl, ?_⟩) ?_ ?_
            rotate_left
            · intro w'
              go_simp
              try with_reducible rfl
            rotate_left
            · simp only [Act.put, List.setIfInBounds_toArray, List.set_cons_zero, List.set_cons_succ, i64_w, i32_w]
              rfl
            refine pure_ (i := 14) (N := (some 12)) (v := ?_) (a' := ?_) #[true, true, true, true, true, true, true, true, true, true, true, true, true, false, true, false] rfl rfl (by kernel_rfl) (fun _ _ _ h => h) (Or.inl ⟨by rfl, ?_⟩) ?_ ?_
            rotate_left
            · intro w'
              go_simp
              try with_reducible rfl
            rotate_left
            · simp only [Act.put, List.setIfInBounds_toArray, List.set_cons_zero, List.set_cons_succ, i64_w, i32_w]
              rfl
            refine pure_ (i := 13) (N := (some 52)) (v := ?_) (a' := ?_) #[true, true, true, true, true, true, true, true, true, true, true, true, true, true, true, false] rfl rfl (by kernel_rfl) (fun _ _ _ h => h) (Or.inl ⟨by rfl, ?_⟩) ?_ ?_
            rotate_left
            · intro w'
              go_simp
              try with_reducible rfl
            rotate_left
            · simp only [Act.put, List.setIfInBounds_toArray, List.set_cons_zero, List.set_cons_succ, i64_w, i32_w]
              rfl
            refine pure_ (i := 15) (N := (some 13)) (v := ?_) (a' := ?_) #[true, true, true, true, true, true, true, true, true, true, true, true, true, true, true, true] rfl rfl (by kernel_rfl) (fun _ _ _ h => h) (Or.inl ⟨by rfl, ?_⟩) ?_ ?_
            rotate_left
            · intro w'
              go_simp
              try with_reducible rfl
            rotate_left
            · simp only [Act.put, List.setIfInBounds_toArray, List.set_cons_zero, List.set_cons_succ, i64_w, i32_w]
              rfl
            skip
            refine done_ (by kernel_rfl) ?_
            go_wp2
            go_roundw
            case rel => exact ⟨k + 1, n1, true, by omega, by go_num, rfl, rfl, HV1, ⟨by have := HW.out; simpa using this⟩, HB2⟩
            case measure => simp [intOf]; omega
          | false =>
            have HW2 := Aside0.mk ((if_neg (by decide)).symm.trans HW.out)
            go_wp2
            generalize hW1 : wr.alloc (.cells #[.string e.f0, .string e.f1] 48) = W1 at *
            generalize hxb : wr.heap.size = xb at *
            clear hW1 hxb hsz q0 q1
            have HT2 := Aside0.mk (HT1.out.below (below_drew (Below.refl _ _)))
            have HX1 := Aside0.mk (show W1.drew.heap[xb]? = some (.cells #[.string e.f0, .string e.f1] 48 (0, 0)) from HX0.out)
            have HB2 := Aside0.mk (below_drew HB1.out)
            have hlk := HG1.out _ HT2.out
            refine start_ (n := 16) (S := fun w' => w'.cell? ⟨t.p, 3, none⟩ = some (.map (some t.wb)) ∧ w'.cell? ⟨xb, 0, none⟩ = some (.string e.f0) ∧ w'.cell? ⟨xb, 1, none⟩ = some (.string e.f1)) (ds := []) #[false, false, false, false, false, false, false, false, false, false, false, false, false, false, false, false] (by kernel_rfl) rfl rfl (⟨HT2.out.c3, (blk_cell HX1.out 0).trans rfl, (blk_cell HX1.out 1).trans rfl⟩) (fun hHeld => ?_)
            generalize W1.drew = W2 at *
            refine pure_ (i := 0) (N := (some 40)) (v := ?_) (a' := ?_) #[true, false, false, false, false, false, false, false, false, false, false, false, false, false, false, false] rfl rfl (by kernel_rfl) (fun _ _ _ h => h) (Or.inl ⟨by rfl, ?_⟩) ?_ ?_
            rotate_left
            · intro w'
              go_simp
              try with_reducible rfl
            rotate_left
            · simp only [Act.put, List.setIfInBounds_toArray, List.set_cons_zero, List.set_cons_succ, i64_w, i32_w]
              rfl
            refine pure_ (i := 1) (N := (some 41)) (v := ?_) (a' := ?_) #[true, true, false, false, false, false, false, false, false, false, false, false, false, false, false, false] rfl rfl (by kernel_rfl) (fun _ _ _ h => h) (Or.inl ⟨by rfl, ?_⟩) ?_ ?_
            rotate_left
            · intro w'
              go_simp
              try with_reducible rfl
            rotate_left
            · simp only [Act.put, List.setIfInBounds_toArray, List.set_cons_zero, List.set_cons_succ, i64_w, i32_w]
              rfl
            refine pure_ (i := 2) (N := (some 42)) (v := ?_) (a' := ?_) #[true, true, true, false, false, false, false, false, false, false, false, false, false, false, false, false] rfl rfl (by kernel_rfl) (fun _ _ _ h => h) (Or.inl ⟨by rfl, ?_⟩) ?_ ?_
            rotate_left
            · intro w'
              go_simp
              try with_reducible rfl
            rotate_left
            · simp only [Act.put, List.setIfInBounds_toArray, List.set_cons_zero, List.set_cons_succ, i64_w, i32_w]
              rfl
            refine pure_ (i := 4) (N := (some 44)) (v := ?_) (a' := ?_) #[true, true, true, false, true, false, false, false, false, false, false, false, false, false, false, false] rfl rfl (by kernel_rfl) (fun _ _ _ h => h) (Or.inl ⟨by rfl, ?_⟩) ?_ ?_
            rotate_left
            · intro w'
              go_simp
              try with_reducible rfl
            rotate_left
            · simp only [Act.put, List.setIfInBounds_toArray, List.set_cons_zero, List.set_cons_succ, i64_w, i32_w]
              rfl
            refine pure_ (i := 5) (N := (some 45)) (v := ?_) (a' := ?_) #[true, true, true, false, true, true, false, false, false, false, false, false, false, false, false, false] rfl rfl (by kernel_rfl) (fun _ _ _ h => h) (Or.inl ⟨by rfl, ?_⟩) ?_ ?_
            rotate_left
            · intro w'
              go_simp
              try with_reducible rfl
            rotate_left
            · simp only [Act.put, List.setIfInBounds_toArray, List.set_cons_zero, List.set_cons_succ, i64_w, i32_w]
              rfl
            refine pure_ (i := 7) (N := (some 47)) (v := ?_) (a' := ?_) #[true, true, true, false, true, true, false, true, false, false, false, false, false, false, false, false] rfl rfl (by kernel_rfl) (fun _ _ _ h => h) (Or.inl ⟨by rfl, ?_⟩) ?_ ?_
            rotate_left
            · intro w'
              go_simp
              try with_reducible rfl
            rotate_left
            · simp only [Act.put, List.setIfInBounds_toArray, List.set_cons_zero, List.set_cons_succ, i64_w, i32_w]
              rfl
            refine take_ (i := 3) (N := (some 43)) (v := ?_) (a' := ?_) #[true, true, true, true, true, true, false, true, false, false, false, false, false, false, false, false] rfl rfl (by kernel_rfl) (fun _ _ _ h => h) (Or.inl ⟨by rfl, ?_⟩) hHeld ?_ ?_
            rotate_left
            · intro w' s0
              obtain ⟨s0, s1, s2⟩ := s0
              go_simp
              try with_reducible rfl
            rotate_left
            · simp only [Act.put, List.setIfInBounds_toArray, List.set_cons_zero, List.set_cons_succ, i64_w, i32_w]
              rfl
            refine take_ (i := 6) (N := (some 46)) (v := ?_) (a' := ?_) #[true, true, true, true, true, true, true, true, false, false, false, false, false, false, false, false] rfl rfl (by kernel_rfl) (fun _ _ _ h => h) (Or.inl ⟨by rfl, ?_⟩) hHeld ?_ ?_
            rotate_left
            · intro w' s0
              obtain ⟨s0, s1, s2⟩ := s0
              go_simp
              try with_reducible rfl
            rotate_left
            · simp only [Act.put, List.setIfInBounds_toArray, List.set_cons_zero, List.set_cons_succ, i64_w, i32_w]
              rfl
            refine take_ (i := 8) (N := (some 48)) (v := ?_) (a' := ?_) #[true, true, true, true, true, true, true, true, true, false, false, false, false, false, false, false] rfl rfl (by kernel_rfl) (fun _ _ _ h => h) (Or.inl ⟨by rfl, ?_⟩) hHeld ?_ ?_
            rotate_left
            · intro w' s0
              obtain ⟨s0, s1, s2⟩ := s0
              go_simp
              try with_reducible rfl
            rotate_left
            · simp only [Act.put, List.setIfInBounds_toArray, List.set_cons_zero, List.set_cons_succ, i64_w, i32_w]
              rfl
            refine pure_ (i := 9) (N := (some 49)) (v := ?_) (a' := ?_) #[true, true, true, true, true, true, true, true, true, true, false, false, false, false, false, false] rfl rfl (by kernel_rfl) (fun _ _ _ h => h) (Or.inl ⟨by rfl, ?_⟩) ?_ ?_
            rotate_left
            · intro w'
              go_simp
              try with_reducible rfl
            rotate_left
            · simp only [Act.put, List.setIfInBounds_toArray, List.set_cons_zero, List.set_cons_succ, i64_w, i32_w]
              rfl
            refine one_ (i := 10) (N := (some 50)) #[true, true, true, true, true, true, true, true, true, true, true, false, false, false, false, false] rfl rfl (by kernel_rfl) (by decide) (fun K hK => ?_)
            refine value_ (w1 := ?_) (v := ?_) (by rfl) rfl ?_ ?_
            rotate_left 2
            · go_simp
              constructor
              · rfl
              · rfl
            refine hK.out _ _ hHeld (fun hHeld => ?_)
            clear hK K
            refine norm_ (a' := ?_) ?_ ?_
            rotate_left
            · show Act.put _ (some 50) _ = _
              simp only [Act.put, List.setIfInBounds_toArray, List.set_cons_zero, List.set_cons_succ, i64_w, i32_w]
              rfl
            refine pure_ (i := 11) (N := (some 39)) (v := ?_) (a' := ?_) #[true, true, true, true, true, true, true, true, true, true, true, true, false, false, false, false] rfl rfl (by kernel_rfl) (fun _ _ _ h => h) (Or.inl ⟨by rfl, ?_⟩) ?_ ?_
            rotate_left
            · intro w'
              go_simp
              try with_reducible rfl
            rotate_left
            · simp only [Act.put, List.setIfInBounds_toArray, List.set_cons_zero, List.set_cons_succ, i64_w, i32_w]
              rfl
            refine pure_ (i := 12) (N := (some 51)) (v := ?_) (a' := ?_) #[true, true, true, true, true, true, true, true, true, true, true, true, true, false, false, false] rfl rfl (by kernel_rfl) (fun _ _ _ h => h) (Or.inl ⟨by rfl, ?_⟩) ?_ ?_
            rotate_left
            · intro w'
              go_simp
              try with_reducible rfl
            rotate_left
            · simp only [Act.put, List.setIfInBounds_toArray, List.set_cons_zero, List.set_cons_succ, i64_w, i32_w]
              rfl
            refine pure_ (i := 14) (N := (some 12)) (v := ?_) (a' := ?_) #[true, true, true, true, true, true, true, true, true, true, true, true, true, false, true, false] rfl rfl (by kernel_rfl) (fun _ _ _ h => h) (Or.inl ⟨by rfl, ?_⟩) ?_ ?_
            rotate_left
            · intro w'
              go_simp
              try with_reducible rfl
            rotate_left
            · simp only [Act.put, List.setIfInBounds_toArray, List.set_cons_zero, List.set_cons_succ, i64_w, i32_w]
              rfl
            refine pure_ (i := 13) (N := (some 52)) (v := ?_) (a' := ?_) #[true, true, true, true, true, true, true, true, true, true, true, true, true, true, true, false] rfl rfl (by kernel_rfl) (fun _ _ _ h => h) (Or.inl ⟨by rfl, ?_⟩) ?_ ?_
            rotate_left
            · intro w'
              go_simp
              try with_reducible rfl
            rotate_left
            · simp only [Act.put, List.setIfInBounds_toArray, List.set_cons_zero, List.set_cons_succ, i64_w, i32_w]
              rfl
            refine pure_ (i := 15) (N := (some 13)) (v := ?_) (a' := ?_) #[true, true, true, true, true, true, true, true, true, true, true, true, true, true, true, true] rfl rfl (by kernel_rfl) (fun _ _ _ h => h) (Or.inl ⟨by rfl, ?_⟩) ?_ ?_
            rotate_left
            · intro w'
              go_simp
              try with_reducible rfl
            rotate_left
            · simp only [Act.put, List.setIfInBounds_toArray, List.set_cons_zero, List.set_cons_succ, i64_w, i32_w]
              rfl
            skip
            refine done_ (by kernel_rfl) ?_
            go_wp2
            clear hlk
            have HT3 := Aside0.mk (HT2.out.below (below_drew (Below.refl _ _)))
            have HX2 := Aside0.mk (show W2.drew.heap[xb]? = some (.cells #[.string e.f0, .string e.f1] 48 (0, 0)) from HX1.out)
            have HB4 := Aside0.mk (below_drew HB2.out)
            have hlk := HG2.out _ HT3.out
            cases o2 with
            | true =>
              refine start_ (n := 14) (S := fun w' => w'.cell? ⟨t.p, 3, none⟩ = some (.map (some t.wb)) ∧ w'.cell? ⟨xb, 0, none⟩ = some (.string e.f0)) (ds := []) #[false, false, false, false, false, false, false, false, false, false, false, false, false, false] (by kernel_rfl) rfl rfl (⟨HT3.out.c3, (blk_cell HX2.out 0).trans rfl⟩) (fun hHeld => ?_)
              generalize W2.drew = W3 at *
              refine pure_ (i := 0) (N := (some 56)) (v := ?_) (a' := ?_) #[true, false, false, false, false, false, false, false, false, false, false, false, false, false] rfl rfl (by kernel_rfl) (fun _ _ _ h => h) (Or.inl ⟨by rfl, ?_⟩) ?_ ?_
              rotate_left
              · intro w'
                go_simp
                try with_reducible rfl
              rotate_left
              · simp only [Act.put, List.setIfInBounds_toArray, List.set_cons_zero, List.set_cons_succ, i64_w, i32_w]
                rfl
              refine pure_ (i := 1) (N := (some 57)) (v := ?_) (a' := ?_) #[true, true, false, false, false, false, false, false, false, false, false, false, false, false] rfl rfl (by kernel_rfl) (fun _ _ _ h => h) (Or.inl ⟨by rfl, ?_⟩) ?_ ?_
              rotate_left
              · intro w'
                go_simp
                try with_reducible rfl
              rotate_left
              · simp only [Act.put, List.setIfInBounds_toArray, List.set_cons_zero, List.set_cons_succ, i64_w, i32_w]
                rfl
              refine pure_ (i := 2) (N := (some 58)) (v := ?_) (a' := ?_) #[true, true, true, false, false, false, false, false, false, false, false, false, false, false] rfl rfl (by kernel_rfl) (fun _ _ _ h => h) (Or.inl ⟨by rfl, ?_⟩) ?_ ?_
              rotate_left
              · intro w'
                go_simp
                try with_reducible rfl
              rotate_left
              · simp only [Act.put, List.setIfInBounds_toArray, List.set_cons_zero, List.set_cons_succ, i64_w, i32_w]
                rfl
              refine pure_ (i := 4) (N := (some 60)) (v := ?_) (a' := ?_) #[true, true, true, false, true, false, false, false, false, false, false, false, false, false] rfl rfl (by kernel_rfl) (fun _ _ _ h => h) (Or.inl ⟨by rfl, ?_⟩) ?_ ?_
              rotate_left
              · intro w'
                go_simp
                try with_reducible rfl
              rotate_left
              · simp only [Act.put, List.setIfInBounds_toArray, List.set_cons_zero, List.set_cons_succ, i64_w, i32_w]
                rfl
              refine pure_ (i := 5) (N := (some 61)) (v := ?_) (a' := ?_) #[true, true, true, false, true, true, false, false, false, false, false, false, false, false] rfl rfl (by kernel_rfl) (fun _ _ _ h => h) (Or.inl ⟨by rfl, ?_⟩) ?_ ?_
              rotate_left
              · intro w'
                go_simp
                try with_reducible rfl
              rotate_left
              · simp only [Act.put, List.setIfInBounds_toArray, List.set_cons_zero, List.set_cons_succ, i64_w, i32_w]
                rfl
              refine take_ (i := 3) (N := (some 59)) (v := ?_) (a' := ?_) #[true, true, true, true, true, true, false, false, false, false, false, false, false, false] rfl rfl (by kernel_rfl) (fun _ _ _ h => h) (Or.inl ⟨by rfl, ?_⟩) hHeld ?_ ?_
              rotate_left
              · intro w' s0
                obtain ⟨s0, s1⟩ := s0
                go_simp
                try with_reducible rfl
              rotate_left
              · simp only [Act.put, List.setIfInBounds_toArray, List.set_cons_zero, List.set_cons_succ, i64_w, i32_w]
                rfl
              refine take_ (i := 6) (N := (some 62)) (v := ?_) (a' := ?_) #[true, true, true, true, true, true, true, false, false, false, false, false, false, false] rfl rfl (by kernel_rfl) (fun _ _ _ h => h) (Or.inl ⟨by rfl, ?_⟩) hHeld ?_ ?_
              rotate_left
              · intro w' s0
                obtain ⟨s0, s1⟩ := s0
                go_simp
                try with_reducible rfl
              rotate_left
              · simp only [Act.put, List.setIfInBounds_toArray, List.set_cons_zero, List.set_cons_succ, i64_w, i32_w]
                rfl
              refine pure_ (i := 7) (N := (some 63)) (v := ?_) (a' := ?_) #[true, true, true, true, true, true, true, true, false, false, false, false, false, false] rfl rfl (by kernel_rfl) (fun _ _ _ h => h) (Or.inl ⟨by rfl, ?_⟩) ?_ ?_
              rotate_left
              · intro w'
                go_simp
                try with_reducible rfl
              rotate_left
              · simp only [Act.put, List.setIfInBounds_toArray, List.set_cons_zero, List.set_cons_succ, i64_w, i32_w]
                rfl
              refine one_ (i := 8) (N := (some 64)) #[true, true, true, true, true, true, true, true, true, false, false, false, false, false] rfl rfl (by kernel_rfl) (by decide) (fun K hK => ?_)
              refine value_ (w1 := ?_) (v := ?_) (by rfl) rfl ?_ ?_
              rotate_left 2
              · go_simp
                constructor
                · rfl
                · rfl
              refine hK.out _ _ hHeld (fun hHeld => ?_)
              clear hK K
              refine norm_ (a' := ?_) ?_ ?_
              rotate_left
              · show Act.put _ (some 64) _ = _
                simp only [Act.put, List.setIfInBounds_toArray, List.set_cons_zero, List.set_cons_succ, i64_w, i32_w]
                rfl
              refine pure_ (i := 9) (N := (some 55)) (v := ?_) (a' := ?_) #[true, true, true, true, true, true, true, true, true, true, false, false, false, false] rfl rfl (by kernel_rfl) (fun _ _ _ h => h) (Or.inl ⟨by rfl, ?_⟩) ?_ ?_
              rotate_left
              · intro w'
                go_simp
                try with_reducible rfl
              rotate_left
              · simp only [Act.put, List.setIfInBounds_toArray, List.set_cons_zero, List.set_cons_succ, i64_w, i32_w]
                rfl
              refine pure_ (i := 10) (N := (some 65)) (v := ?_) (a' := ?_) #[true, true, true, true, true, true, true, true, true, true, true, false, false, false] rfl rfl (by kernel_rfl) (fun _ _ _ h => h) (Or.inl ⟨by rfl, ?_⟩) ?_ ?_
              rotate_left
              · intro w'
                go_simp
                try with_reducible rfl
              rotate_left
              · simp only [Act.put, List.setIfInBounds_toArray, List.set_cons_zero, List.set_cons_succ, i64_w, i32_w]
                rfl
              refine pure_ (i := 12) (N := (some 12)) (v := ?_) (a' := ?_) #[true, true, true, true, true, true, true, true, true, true, true, false, true, false] rfl rfl (by kernel_rfl) (fun _ _ _ h => h) (Or.inl ⟨by rfl, ?_⟩) ?_ ?_
              rotate_left
              · intro w'
                go_simp
                try with_reducible rfl
              rotate_left
              · simp only [Act.put, List.setIfInBounds_toArray, List.set_cons_zero, List.set_cons_succ, i64_w, i32_w]
                rfl
              refine pure_ (i := 11) (N := (some 66)) (v := ?_) (a' := ?_) #[true, true, true, true, true, true, true, true, true, true, true, true, true, false] rfl rfl (by kernel_rfl) (fun _ _ _ h => h) (Or.inl ⟨by rfl, ?_⟩) ?_ ?_
              rotate_left
              · intro w'
                go_simp
                try with_reducible rfl
              rotate_left
              · simp only [Act.put, List.setIfInBounds_toArray, List.set_cons_zero, List.set_cons_succ, i64_w, i32_w]
                rfl
              refine pure_ (i := 13) (N := (some 13)) (v := ?_) (a' := ?_) #[true, true, true, true, true, true, true, true, true, true, true, true, true, true] rfl rfl (by kernel_rfl) (fun _ _ _ h => h) (Or.inl ⟨by rfl, ?_⟩) ?_ ?_
              rotate_left
              · intro w'
                go_simp
                try with_reducible rfl
              rotate_left
              · simp only [Act.put, List.setIfInBounds_toArray, List.set_cons_zero, List.set_cons_succ, i64_w, i32_w]
                rfl
              skip
              refine done_ (by kernel_rfl) ?_
              go_wp2
              go_roundw
              case rel => exact ⟨k + 1, n2, true, by omega, by go_num, rfl, rfl, HV2, ⟨by have := HW2.out; simpa using this⟩, HB4⟩
              case measure => simp [intOf]; omega
            | false =>
              refine start_ (n := 14) (S := fun w' => w'.cell? ⟨t.p, 3, none⟩ = some (.map (some t.wb)) ∧ w'.cell? ⟨xb, 0, none⟩ = some (.string e.f0)) (ds := []) #[false, false, false, false, false, false, false, false, false, false, false, false, false, false] (by kernel_rfl) rfl rfl (⟨HT3.out.c3, (blk_cell HX2.out 0).trans rfl⟩) (fun hHeld => ?_)
              generalize W2.drew = W3 at *
              refine pure_ (i := 0) (N := (some 56)) (v := ?_) (a' := ?_) #[true, false, false, false, false, false, false, false, false, false, false, false, false, false] rfl rfl (by kernel_rfl) (fun _ _ _ h => h) (Or.inl ⟨by rfl, ?_⟩) ?_ ?_
              rotate_left
              · intro w'
                go_simp
                try with_reducible rfl
              rotate_left
              · simp only [Act.put, List.setIfInBounds_toArray, List.set_cons_zero, List.set_cons_succ, i64_w, i32_w]
                rfl
              refine pure_ (i := 1) (N := (some 57)) (v := ?_) (a' := ?_) #[true, true, false, false, false, false, false, false, false, false, false, false, false, false] rfl rfl (by kernel_rfl) (fun _ _ _ h => h) (Or.inl ⟨by rfl, ?_⟩) ?_ ?_
              rotate_left
              · intro w'
                go_simp
                try with_reducible rfl
              rotate_left
              · simp only [Act.put, List.setIfInBounds_toArray, List.set_cons_zero, List.set_cons_succ, i64_w, i32_w]
                rfl
              refine pure_ (i := 2) (N := (some 58)) (v := ?_) (a' := ?_) #[true, true, true, false, false, false, false, false, false, false, false, false, false, false] rfl rfl (by kernel_rfl) (fun _ _ _ h => h) (Or.inl ⟨by rfl, ?_⟩) ?_ ?_
              rotate_left
              · intro w'
                go_simp
                try with_reducible rfl
              rotate_left
              · simp only [Act.put, List.setIfInBounds_toArray, List.set_cons_zero, List.set_cons_succ, i64_w, i32_w]
                rfl
              refine pure_ (i := 4) (N := (some 60)) (v := ?_) (a' := ?_) #[true, true, true, false, true, false, false, false, false, false, false, false, false, false] rfl rfl (by kernel_rfl) (fun _ _ _ h => h) (Or.inl ⟨by rfl, ?_⟩) ?_ ?_
              rotate_left
              · intro w'
                go_simp
                try with_reducible rfl
              rotate_left
              · simp only [Act.put, List.setIfInBounds_toArray, List.set_cons_zero, List.set_cons_succ, i64_w, i32_w]
                rfl
              refine pure_ (i := 5) (N := (some 61)) (v := ?_) (a' := ?_) #[true, true, true, false, true, true, false, false, false, false, false, false, false, false] rfl rfl (by kernel_rfl) (fun _ _ _ h => h) (Or.inl ⟨by rfl, ?_⟩) ?_ ?_
              rotate_left
              · intro w'
                go_simp
                try with_reducible rfl
              rotate_left
              · simp only [Act.put, List.setIfInBounds_toArray, List.set_cons_zero, List.set_cons_succ, i64_w, i32_w]
                rfl
              refine take_ (i := 3) (N := (some 59)) (v := ?_) (a' := ?_) #[true, true, true, true, true, true, false, false, false, false, false, false, false, false] rfl rfl (by kernel_rfl) (fun _ _ _ h => h) (Or.inl ⟨by rfl, ?_⟩) hHeld ?_ ?_
              rotate_left
              · intro w' s0
                obtain ⟨s0, s1⟩ := s0
                go_simp
                try with_reducible rfl
              rotate_left
              · simp only [Act.put, List.setIfInBounds_toArray, List.set_cons_zero, List.set_cons_succ, i64_w, i32_w]
                rfl
              refine take_ (i := 6) (N := (some 62)) (v := ?_) (a' := ?_) #[true, true, true, true, true, true, true, false, false, false, false, false, false, false] rfl rfl (by kernel_rfl) (fun _ _ _ h => h) (Or.inl ⟨by rfl, ?_⟩) hHeld ?_ ?_
              rotate_left
              · intro w' s0
                obtain ⟨s0, s1⟩ := s0
                go_simp
                try with_reducible rfl
              rotate_left
              · simp only [Act.put, List.setIfInBounds_toArray, List.set_cons_zero, List.set_cons_succ, i64_w, i32_w]
                rfl
              refine pure_ (i := 7) (N := (some 63)) (v := ?_) (a' := ?_) #[true, true, true, true, true, true, true, true, false, false, false, false, false, false] rfl rfl (by kernel_rfl) (fun _ _ _ h => h) (Or.inl ⟨by rfl, ?_⟩) ?_ ?_
              rotate_left
              · intro w'
                go_simp
                try with_reducible rfl
              rotate_left
              · simp only [Act.put, List.setIfInBounds_toArray, List.set_cons_zero, List.set_cons_succ, i64_w, i32_w]
                rfl
              refine one_ (i := 8) (N := (some 64)) #[true, true, true, true, true, true, true, true, true, false, false, false, false, false] rfl rfl (by kernel_rfl) (by decide) (fun K hK => ?_)
              refine value_ (w1 := ?_) (v := ?_) (by rfl) rfl ?_ ?_
              rotate_left 2
              · go_simp
                constructor
                · rfl
                · rfl
              refine hK.out _ _ hHeld (fun hHeld => ?_)
              clear hK K
              refine norm_ (a' := ?_) ?_ ?_
              rotate_left
              · show Act.put _ (some 64) _ = _
                simp only [Act.put, List.setIfInBounds_toArray, List.set_cons_zero, List.set_cons_succ, i64_w, i32_w]
                rfl
              refine pure_ (i := 9) (N := (some 55)) (v := ?_) (a' := ?_) #[true, true, true, true, true, true, true, true, true, true, false, false, false, false] rfl rfl (by kernel_rfl) (fun _ _ _ h => h) (Or.inl ⟨by rfl, ?_⟩) ?_ ?_
              rotate_left
              · intro w'
                go_simp
                try with_reducible rfl
              rotate_left
              · simp only [Act.put, List.setIfInBounds_toArray, List.set_cons_zero, List.set_cons_succ, i64_w, i32_w]
                rfl
              refine pure_ (i := 10) (N := (some 65)) (v := ?_) (a' := ?_) #[true, true, true, true, true, true, true, true, true, true, true, false, false, false] rfl rfl (by kernel_rfl) (fun _ _ _ h => h) (Or.inl ⟨by rfl, ?_⟩) ?_ ?_
              rotate_left
              · intro w'
                go_simp
                try with_reducible rfl
              rotate_left
              · simp only [Act.put, List.setIfInBounds_toArray, List.set_cons_zero, List.set_cons_succ, i64_w, i32_w]
                rfl
              refine pure_ (i := 12) (N := (some 12)) (v := ?_) (a' := ?_) #[true, true, true, true, true, true, true, true, true, true, true, false, true, false] rfl rfl (by kernel_rfl) (fun _ _ _ h => h) (Or.inl ⟨by rfl, ?_⟩) ?_ ?_
              rotate_left
              · intro w'
                go_simp
                try with_reducible rfl
              rotate_left
              · simp only [Act.put, List.setIfInBounds_toArray, List.set_cons_zero, List.set_cons_succ, i64_w, i32_w]
                rfl
              refine pure_ (i := 11) (N := (some 66)) (v := ?_) (a' := ?_) #[true, true, true, true, true, true, true, true, true, true, true, true, true, false] rfl rfl (by kernel_rfl) (fun _ _ _ h => h) (Or.inl ⟨by rfl, ?_⟩) ?_ ?_
              rotate_left
              · intro w'
                go_simp
                try with_reducible rfl
              rotate_left
              · simp only [Act.put, List.setIfInBounds_toArray, List.set_cons_zero, List.set_cons_succ, i64_w, i32_w]
                rfl
              refine pure_ (i := 13) (N := (some 13)) (v := ?_) (a' := ?_) #[true, true, true, true, true, true, true, true, true, true, true, true, true, true] rfl rfl (by kernel_rfl) (fun _ _ _ h => h) (Or.inl ⟨by rfl, ?_⟩) ?_ ?_
              rotate_left
              · intro w'
                go_simp
                try with_reducible rfl
              rotate_left
              · simp only [Act.put, List.setIfInBounds_toArray, List.set_cons_zero, List.set_cons_succ, i64_w, i32_w]
                rfl
              skip
              refine done_ (by kernel_rfl) ?_
              go_wp2
              go_roundw
              case rel => exact ⟨k + 1, n2, false, by omega, by go_num, rfl, rfl, HV2, ⟨by have := HW2.out; simpa using this⟩, HB4⟩
              case measure => simp [intOf]; omega
      · obtain rfl : k = l.length := by omega
        have hw := HW.out
        rw [List.drop_length] at hw
        unfold matchP at hw
        have HW2 := Aside0.mk hw
        clear hw HW
        cases ok with
        | false =>
          go_wp2
          go_ret2
          exact ⟨by rw [← HW2.out]; rfl, HB.out⟩
        | true =>
          go_wp2
          go_ret2
          exact ⟨by rw [← HW2.out]; rfl, HB.out⟩
end Go.Proofs.Ytipbigdpannlcaa.Tr
