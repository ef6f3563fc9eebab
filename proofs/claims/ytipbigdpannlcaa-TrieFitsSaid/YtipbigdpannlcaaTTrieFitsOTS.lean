/- What the law TrieFits uses, thinned: printed by shake2.py. -/
import Derived.Test.YtipbigdpannlcaaTTrieFitsOTQ
import Derived.Test.YtipbigdpannlcaaTTrieFitsPTrieFitsx7
namespace Go.Proofs.Ytipbigdpannlcaa.Tr
open Go.RowKit Go.Proofs.YtipbigdpannlcaaW.PrintWords Go.Proofs.YtipbigdpannlcaaW.PrintLast Go.Proofs.YtipbigdpannlcaaW.PrintMore Go.Proofs.Ytipbigdpannlcaa.PTrieFits Go.Proofs.Ytipbigdpannlcaa.Pure
set_option maxRecDepth 100000
set_option linter.unusedVariables false
set_option linter.unusedSimpArgs false
def eB (s : ByteArray) : ByteArray := ⟨(desc_Escape.all s.data.toList).toArray⟩
theorem eB_size (s : ByteArray) : (eB s).size ≤ 3 * s.size := by
  have := desc_Escape.all_len s.data.toList
  have e : (eB s).size = (desc_Escape.all s.data.toList).length := by unfold eB; show Array.size _ = _; simp
  rw [e]
  have e2 : s.data.toList.length = s.size := data_length s
  omega
theorem esc_any (s : ByteArray) (hs : s.size ≤ 1099511627776) (w : World) : Calls Try.prog 27 #[.string s] w fun e w' => e = .returned (.string (eB s)) ∧ Below w.heap.size w w' :=
  desc_Escape.calls s _ w (by unfold desc_Escape.f; rw [if_pos hs]; rfl)
def oneB (b : BR) : ByteArray := if b.f2 = true then (⟨#[44]⟩ : ByteArray) ++ eB b.f0 else ((⟨#[44]⟩ : ByteArray) ++ eB b.f0) ++ ((⟨#[61]⟩ : ByteArray) ++ eB b.f1)
def pathF (bs : List BR) : Nat → Int → ByteArray
  | 0, _ => ⟨#[]⟩
  | f + 1, n => if n < 0 then ⟨#[]⟩ else pathF bs f (br bs n).f4 ++ oneB (br bs n)
def pathB (bs : List BR) (n : Int) : ByteArray := pathF bs (n + 1).toNat n
def Ups (bs : List BR) : Prop := ∀ j : Int, 0 ≤ j → j < bs.length → -1 ≤ (br bs j).f4 ∧ (br bs j).f4 < j
theorem pathF_eq {bs : List BR} (hu : Ups bs) : ∀ (f g : Nat) (n : Int), n < bs.length → (n + 1).toNat ≤ f → (n + 1).toNat ≤ g → pathF bs f n = pathF bs g n
  | 0, 0, n, _, _, _ => rfl
  | 0, g + 1, n, hn, hf, _ => by
    unfold pathF
    rw [if_pos (by omega)]
  | f + 1, 0, n, hn, _, hg => by
    unfold pathF
    rw [if_pos (by omega)]
  | f + 1, g + 1, n, hn, hf, hg => by
    unfold pathF
    by_cases h : n < 0
    · rw [if_pos h, if_pos h]
    · rw [if_neg h, if_neg h]
      obtain ⟨h1, h2⟩ := hu n (by omega) hn
      rw [pathF_eq hu f g _ (by omega) (by omega) (by omega)]
theorem pathB_neg (bs : List BR) {n : Int} (h : n < 0) : pathB bs n = ⟨#[]⟩ := by
  unfold pathB
  rw [show (n + 1).toNat = 0 by omega]
  rfl
theorem pathB_step {bs : List BR} (hu : Ups bs) {n : Int} (h0 : 0 ≤ n) (h1 : n < bs.length) : pathB bs n = pathB bs (br bs n).f4 ++ oneB (br bs n) := by
  obtain ⟨h2, h3⟩ := hu n h0 h1
  unfold pathB
  rw [show (n + 1).toNat = n.toNat + 1 by omega]
  conv => lhs; unfold pathF
  rw [if_neg (by omega), pathF_eq hu n.toNat ((br bs n).f4 + 1).toNat _ (by omega) (by omega) (by omega)]
theorem br_map (bs : List BR) (n : Int) (h0 : 0 ≤ n) (h1 : n < bs.length) : br (bs.map noKids) n = noKids (br bs n) := by
  unfold br
  rw [List.getD_eq_getElem?_getD, List.getD_eq_getElem?_getD, List.getElem?_map, List.getElem?_eq_getElem (by omega)]
  rfl
theorem str_nil : ∀ a : ByteArray, a ++ (⟨#[]⟩ : ByteArray) = a := fun a => ByteArray.append_empty
theorem nil_str : ∀ a : ByteArray, (⟨#[]⟩ : ByteArray) ++ a = a := fun a => ByteArray.empty_append
theorem oneB_size (b : BR) (h0 : b.f0.size ≤ 64) (h1 : b.f1.size ≤ 128) : (oneB b).size ≤ 600 := by
  have e0 := eB_size b.f0
  have e1 := eB_size b.f1
  unfold oneB
  have z1 : (⟨#[44]⟩ : ByteArray).size = 1 := rfl
  have z2 : (⟨#[61]⟩ : ByteArray).size = 1 := rfl
  split
  · rw [ByteArray.size_append]; omega
  · rw [ByteArray.size_append, ByteArray.size_append, ByteArray.size_append]; omega
def pathV (c : Cfg) (n : Int) : ByteArray := if 0 ≤ n ∧ n < c.bs.length then eB (dd c.ds (br c.bs n).f3).f0 ++ pathB c.bs n else ⟨#[]⟩
theorem path_nil (n : Int) (w : World) : Calls Try.prog 11 #[.pointer none, .int .i64 n] w fun e w' => e = .returned (.string ⟨#[]⟩) ∧ Below w.heap.size w w' := by
  by_cases h : n < 0
  · have d1 : decide (n < 0) = true := decide_eq_true h
    go_enter Try.func11, Try.ntmps11
    go_wp2
    go_ret
    exact ⟨rfl, Below.refl _ _⟩
  · have d1 : decide (n < 0) = false := decide_eq_false h
    have d2 : decide (0 ≤ n) = true := decide_eq_true (by omega)
    go_enter Try.func11, Try.ntmps11
    go_wp2_with fail
    (with_reducible refine (size_nil _).mono ?_); rintro e w3 ⟨rfl, rfl⟩
    go_wp2
    go_ret
    exact ⟨rfl, Below.refl _ _⟩
set_option maxHeartbeats 4000000 in
theorem path_any {w0 w : World} {t : TrV} {c : Cfg} (h : TR w0 w t c) (htr : Tree c) (hbs : c.bs.length ≤ 500) (hsz : ∀ j : Int, 0 ≤ j → j < c.bs.length → (br c.bs j).f0.size ≤ 64 ∧ (br c.bs j).f1.size ≤ 128) (hnm : ∀ d : Int, 0 ≤ d → d < c.ds.length → (dd c.ds d).f0.size ≤ 64) (n : Int) (hn0 : -1000000 ≤ n) (hn1 : n ≤ 1000000) :
    Calls Try.prog 11 #[.pointer (some ⟨t.p, 0, none⟩), .int .i64 n] w fun e w' => e = .returned (.string (pathV c n)) ∧ Below w.heap.size w w' := by
  have H := Aside0.mk h
  have HSZ := Aside0.mk hsz
  have HNM := Aside0.mk hnm
  have HTR := Aside0.mk htr
  have hu : Ups c.bs := fun j a b => by rcases htr.up j a b with h | h <;> omega
  have HU := Aside0.mk hu
  clear h hsz hnm htr hu
  by_cases h1 : n < 0
  · have HV := Aside0.mk (show pathV c n = ⟨#[]⟩ by unfold pathV; rw [if_neg (by omega)])
    have d1 : decide (n < 0) = true := decide_eq_true h1
    go_enter Try.func11, Try.ntmps11
    go_wp2
    go_ret
    exact ⟨by rw [HV.out]; rfl, Below.refl _ _⟩
  · have d1 : decide (n < 0) = false := decide_eq_false h1
    by_cases h2 : (c.bs.length : Int) ≤ n
    · have HV := Aside0.mk (show pathV c n = ⟨#[]⟩ by unfold pathV; rw [if_neg (by omega)])
      have d2 : decide ((c.bs.length : Int) ≤ n) = true := decide_eq_true h2
      go_enter Try.func11, Try.ntmps11
      go_wp2_with fail
      (with_reducible refine (size_any H.out).mono ?_); rintro e w3 ⟨rfl, rfl⟩
      go_wp2
      go_ret
      exact ⟨by rw [HV.out]; rfl, Below.refl _ _⟩
    · have HV := Aside0.mk (show pathV c n = eB (dd c.ds (br c.bs n).f3).f0 ++ pathB c.bs n by unfold pathV; rw [if_pos (by omega)])
      have d2 : decide ((c.bs.length : Int) ≤ n) = false := decide_eq_false h2
      have c0 := H.out.c0
      obtain ⟨hd0, hd1⟩ := HTR.out.dom n (by omega) (by omega)
      obtain ⟨ad, A12, c12, eb, _, _, _, q3, _, _, _, _, _, _, _, _, _, _, _⟩ := at_T46 H.out.l n (by omega) (by omega)
      rw [br_rd, br_map _ _ (by omega) (by omega)] at q3
      rw [eb] at c0
      have HEB := Aside0.mk eb
      have q3' : w.cell? ⟨(ad.add (n.toNat * 13)).block, (ad.add (n.toNat * 13)).off + 3, none⟩ = some (.int .i64 (br c.bs n).f3) := q3
      clear q3 eb
      obtain ⟨dm, hdm⟩ : ∃ dm, dm = (br c.bs n).f3 := ⟨_, rfl⟩
      rw [← hdm] at q3' HV hd0 hd1
      obtain ⟨T, hT⟩ : ∃ T, T = pathB c.bs n := ⟨_, rfl⟩
      rw [← hT] at HV
      have HT := Aside0.mk hT
      clear hdm hT
      go_enter Try.func11, Try.ntmps11
      go_wp2_with fail
      (with_reducible refine (size_any H.out).mono ?_); rintro e w3 ⟨rfl, rfl⟩
      go_wp2
      have HB0 := Aside0.mk (Below.refl w.heap.size w)
      have HP0 := Aside0.mk (show pathB c.bs n ++ (⟨#[]⟩ : ByteArray) = T by rw [str_nil, HT.out])
      go_loopw [1, 5] (fun a s wr => ∃ (m : Int) (Sx : ByteArray), a = .int .i64 m ∧ s = .string Sx ∧ -1 ≤ m ∧ m < c.bs.length ∧ Aside0 (pathB c.bs m ++ Sx = T) ∧ (Sx.size : Int) + 600 * (m + 1) ≤ 600 * (c.bs.length : Int) ∧ Aside0 (Below w.heap.size w wr)) (fun a _ _ => (intOf a + 1).toNat)
      case atStart => exact ⟨n, ⟨#[]⟩, rfl, rfl, by omega, by omega, HP0, by show (0 : Int) + _ ≤ _; omega, HB0⟩
      case round =>
        obtain ⟨m, Sx, rfl, rfl, hm0, hm1, HP, hsx, HB⟩ := hrel
        clear HP0 HB0 c0 q3'
        have h3 := H.out.below HB.out
        have c0 := h3.c0
        have c1 := h3.c1
        rw [HEB.out] at c0
        have H3 := Aside0.mk h3
        clear h3
        by_cases hm : 0 ≤ m
        · have d3 : decide (0 ≤ m) = true := decide_eq_true hm
          obtain ⟨ad2, A12', c12', eb2, q0, q1, q2, q3, q4, q5, q6, q7, q8, q9, q10, q11, q12, l12, g12⟩ := at_T46 H3.out.l m hm hm1
          rw [HEB.out] at eb2
          obtain rfl := Option.some.inj eb2
          rw [br_rd, br_map _ _ hm hm1] at q0 q1 q2 q3 q4 q5 q6 q7 q8 q9 q10 q11 q12 l12 g12
          have hsz := HSZ.out m hm hm1
          have HST := Aside0.mk (show pathB c.bs m = pathB c.bs (noKids (br c.bs m)).f4 ++ oneB (noKids (br c.bs m)) from pathB_step HU.out hm hm1)
          have hup := HU.out m hm hm1
          have hsz' : (noKids (br c.bs m)).f0.size ≤ 64 ∧ (noKids (br c.bs m)).f1.size ≤ 128 := hsz
          have hup' : -1 ≤ (noKids (br c.bs m)).f4 ∧ (noKids (br c.bs m)).f4 < m := hup
          clear hsz hup eb2
          generalize noKids (br c.bs m) = nb at *
          have hup := hup'
          have ho := oneB_size nb hsz'.1 hsz'.2
          have e0 := eB_size nb.f0
          have e1 := eB_size nb.f1
          have HE0 := Aside0.mk (fun W => esc_any nb.f0 (by omega) W)
          have HE1 := Aside0.mk (fun W => esc_any nb.f1 (by omega) W)
          have hb2 := below_alloc HB.out (.cells (cellsB nb A12' c12') 46)
          have HX2 := Aside0.mk (blk_new wr (.cells (cellsB nb A12' c12') 46))
          have HB2 := Aside0.mk hb2
          clear hb2 hup' l12 g12
          unfold cellsB at HB2 HX2
          have z1 : (⟨#[44]⟩ : ByteArray).size = 1 := rfl
          have z2 : (⟨#[61]⟩ : ByteArray).size = 1 := rfl
          have s1 : ((⟨#[44]⟩ : ByteArray) ++ eB nb.f0).size = 1 + (eB nb.f0).size := by rw [ByteArray.size_append]; rfl
          have s2 : ((⟨#[61]⟩ : ByteArray) ++ eB nb.f1).size = 1 + (eB nb.f1).size := by rw [ByteArray.size_append]; rfl
          obtain ⟨ob, hob⟩ : ∃ ob, ob = oneB nb := ⟨_, rfl⟩
          have HOB := Aside0.mk hob
          clear hob
          cases ea : nb.f2 with
          | true =>
            have HO := Aside0.mk (show oneB nb = (⟨#[44]⟩ : ByteArray) ++ eB nb.f0 by unfold oneB; rw [if_pos ea])
            rw [ea] at q2 HX2 HB2
            go_wp2_with fail
            (with_reducible refine (HE0.out _).mono ?_); rintro e w4 ⟨rfl, hb4⟩
            have HB4 := Aside0.mk (below_then HB2.out HB2.out.size hb4)
            have HX4 := Aside0.mk ((hb4.block _ (blk_lt HX2.out)).trans HX2.out)
            have y1 : w4.cell? ⟨wr.heap.size, 1, none⟩ = some (.string nb.f1) := (blk_cell HX4.out 1).trans rfl
            have y2 : w4.cell? ⟨wr.heap.size, 2, none⟩ = some (.bool true) := (blk_cell HX4.out 2).trans rfl
            have y4 : w4.cell? ⟨wr.heap.size, 4, none⟩ = some (.int .i64 nb.f4) := (blk_cell HX4.out 4).trans rfl
            clear hb4 q0 q1 q2 q3 q4 q5 q6 q7 q8 q9 q10 q11 q12
            go_wp2
            go_roundw
            case rel =>
              refine ⟨nb.f4, oneB nb ++ Sx, rfl, by rw [HO.out], hup.1, by omega, ⟨?_⟩, ?_, HB4⟩
              · rw [← HP.out, HST.out, ByteArray.append_assoc]
              · rw [ByteArray.size_append]
                omega
            case measure => simp [intOf]; omega
          | false =>
            have HO := Aside0.mk (show oneB nb = ((⟨#[44]⟩ : ByteArray) ++ eB nb.f0) ++ ((⟨#[61]⟩ : ByteArray) ++ eB nb.f1) by unfold oneB; rw [if_neg (by rw [ea]; decide)])
            rw [ea] at q2 HX2 HB2
            go_wp2_with fail
            (with_reducible refine (HE0.out _).mono ?_); rintro e w4 ⟨rfl, hb4⟩
            have HB4 := Aside0.mk (below_then HB2.out HB2.out.size hb4)
            have HX4 := Aside0.mk ((hb4.block _ (blk_lt HX2.out)).trans HX2.out)
            have y1 : w4.cell? ⟨wr.heap.size, 1, none⟩ = some (.string nb.f1) := (blk_cell HX4.out 1).trans rfl
            have y2 : w4.cell? ⟨wr.heap.size, 2, none⟩ = some (.bool false) := (blk_cell HX4.out 2).trans rfl
            have y4 : w4.cell? ⟨wr.heap.size, 4, none⟩ = some (.int .i64 nb.f4) := (blk_cell HX4.out 4).trans rfl
            clear hb4 q0 q1 q2 q3 q4 q5 q6 q7 q8 q9 q10 q11 q12
            go_wp2_with fail
            (with_reducible refine (HE1.out _).mono ?_); rintro e w5 ⟨rfl, hb5⟩
            have HB5 := Aside0.mk (below_then HB4.out HB4.out.size hb5)
            have HX5 := Aside0.mk ((hb5.block _ (blk_lt HX4.out)).trans HX4.out)
            have y5 : w5.cell? ⟨wr.heap.size, 4, none⟩ = some (.int .i64 nb.f4) := (blk_cell HX5.out 4).trans rfl
            clear hb5 y1 y2 y4
            go_wp2
            go_roundw
            case rel =>
              refine ⟨nb.f4, oneB nb ++ Sx, rfl, by rw [HO.out], hup.1, by omega, ⟨?_⟩, ?_, HB5⟩
              · rw [← HP.out, HST.out, ByteArray.append_assoc]
              · rw [ByteArray.size_append]
                omega
            case measure => simp [intOf]; omega
        · have d3 : decide (0 ≤ m) = false := decide_eq_false hm
          obtain rfl : m = -1 := by omega
          have hp := HP.out
          rw [pathB_neg _ (by omega), nil_str] at hp
          subst hp
          obtain ⟨ad3, eb3, qn⟩ := (Kd.reads_of_C (d := (⟨#[]⟩ : ByteArray)) H3.out.n).at_ dm hd0 hd1
          rw [eb3] at c1
          have hdn : rdOf (⟨#[]⟩ : ByteArray) (c.ds.map (·.f0)) dm = (dd c.ds dm).f0 := by
            unfold rdOf dd
            rw [List.getD_eq_getElem?_getD, List.getD_eq_getElem?_getD, List.getElem?_map, List.getElem?_eq_getElem (by omega)]
            rfl
          rw [hdn] at qn
          have hns := HNM.out dm hd0 hd1
          clear hdn
          generalize (dd c.ds dm).f0 = nm at *
          have e0 := eB_size nm
          have HE0 := Aside0.mk (fun W => esc_any nm (by omega) W)
          clear c0
          go_wp2_with fail
          (with_reducible refine (HE0.out _).mono ?_); rintro e w4 ⟨rfl, hb4⟩
          have HB4 := Aside0.mk (below_then HB.out HB.out.size hb4)
          clear hb4 qn c1
          go_wp2
          go_ret
          exact ⟨by rw [HV.out]; rfl, HB4.out⟩
end Go.Proofs.Ytipbigdpannlcaa.Tr
