/- Maps of texts to numbers, and what counts in them: a part of the proof. -/
import Derived.Test.YtehlhaddbfjllaaOSP
namespace Go.Proofs.Ytehlhaddbfjllaa.Mp
open Go.RowKit Go.Sort Go.Proofs.YtehlhaddbfjllaaW.PrintWords Go.Proofs.YtehlhaddbfjllaaW.PrintLast Go.Proofs.YtehlhaddbfjllaaW.PrintMore Go.Proofs.Ytehlhaddbfjllaa.PStatActs
set_option maxRecDepth 100000
set_option linter.unusedVariables false
attribute [local go_sem ↓] Go.wp_at_zero Go.wp_at_succ
/-- The document's list, as it grows. -/
def outD (L : List S79) (q : ByteArray) (i : Nat) : List S79 := (L.take i).filter fun x => bgn x.f0 q
theorem outD_len (L : List S79) (q : ByteArray) (i : Nat) : (outD L q i).length ≤ i := Nat.le_trans (List.length_filter_le _ _) (List.length_take_le _ _)
theorem outD_all (L : List S79) (q : ByteArray) : outD L q L.length = L.filter fun x => bgn x.f0 q := by unfold outD; rw [List.take_length]
theorem outD_succ (L : List S79) (q : ByteArray) (i : Nat) (hi : i < L.length) : outD L q (i + 1) = outD L q i ++ if bgn (L[i]).f0 q = true then [L[i]] else [] := by
  unfold outD
  rw [List.take_add_one, List.getElem?_eq_getElem hi, List.filter_append]
  congr 1
  show List.filter _ [L[i]] = _
  rw [List.filter_cons]
  split <;> rfl
section
variable {w0 w w1 : World} {r : Nat} {A : Option Addr} {c : Nat} {L : List S79}
structure DK (W w : World) (v : Value) (o : List S79) : Prop where
  o : Kd.R k79 79 w W.heap.size (fun _ => True) v o
  f : Below W.heap.size W w
theorem DK.drewN {W : World} {v : Value} {o : List S79} (h : DK W w v o) (n : Nat) : DK W (w.drewN n) v o := ⟨Kd.R_move h.o (fun _ _ => rfl), pw_below_drewN h.f n⟩
set_option maxHeartbeats 2000000 in
theorem DI.list (h : DI w0 w r A c L) (q : ByteArray) : Calls Try.prog 30 #[.pointer (some ⟨r, 0, none⟩), .string q] w fun e w' => ∃ (B : Option Addr) (d : Nat), e = .returned (.slice B (L.filter fun x => bgn x.f0 q).length d) ∧ Kd.R k79 79 w' w.heap.size (fun _ => True) (.slice B (L.filter fun x => bgn x.f0 q).length d) (L.filter fun x => bgn x.f0 q) ∧ Frm (fun _ => False) w w' := by
  have H := Aside0.mk h
  have hfew := h.few
  have HK0 : Aside0 (DK w w (.slice none 0 0) []) := ⟨⟨Kd.R_nil _ _ _ _ _, Below.refl _ _⟩⟩
  clear h
  go_enter Try.func30, Try.ntmps30
  go_wp2
  go_loopw [5, 6] (fun v5 v6 wr => ∃ (i : Nat) (A2 : Option Addr) (c2 : Nat), v6 = .int .i64 (i : Nat) ∧ v5 = .slice A2 (outD L q i).length c2 ∧ i ≤ L.length ∧ Aside0 (DK w wr (.slice A2 (outD L q i).length c2) (outD L q i))) (fun _ v6 _ => L.length - (intOf v6).toNat)
  case atStart => exact ⟨0, none, 0, rfl, rfl, Nat.zero_le _, HK0⟩
  case round =>
    clear HK0
    obtain ⟨i, A2, c2, rfl, rfl, hi, HK⟩ := hrel
    have HD := Aside0.mk (H.out.movedN (Frm.of_below (F := fun _ => False) HK.out.f))
    have c0 := HD.out.c0
    have hol := outD_len L q i
    by_cases hlt : i < L.length
    · obtain ⟨ad, rfl, q0, q1⟩ := HD.out.at_ hlt
      have HOS := Lib.hid (outD_succ L q i hlt)
      generalize L[i] = x at *
      obtain ⟨kx, pv⟩ := x
      simp only at q0 q1
      cases hb : bgn kx q with
      | false =>
        have HHP : Aside0 (∀ w, Calls Try.prog 49 #[.string kx, .string q] w fun e w' => e = .returned (.bool false) ∧ ∃ n, w' = w.drewN n) := ⟨fun w => by rw [← hb]; exact bg_any kx q w⟩
        have HOS := Lib.hid (show outD L q (i + 1) = outD L q i by rw [HOS.out, if_neg (by simp [hb])]; simp)
        clear hb
        go_wp2_with fail
        (with_reducible refine (HHP.out _).mono ?_); rintro e w4 ⟨rfl, n, rfl⟩
        go_wp2
        go_roundw
        case rel => exact ⟨i + 1, A2, c2, by go_num, by rw [HOS.out], by omega, by rw [HOS.out]; exact ⟨HK.out.drewN n⟩⟩
        case measure => simp [intOf]; omega
      | true =>
        have HHP : Aside0 (∀ w, Calls Try.prog 49 #[.string kx, .string q] w fun e w' => e = .returned (.bool true) ∧ ∃ n, w' = w.drewN n) := ⟨fun w => by rw [← hb]; exact bg_any kx q w⟩
        have HOS := Lib.hid (show outD L q (i + 1) = outD L q i ++ [⟨kx, pv⟩] by rw [HOS.out, if_pos hb])
        clear hb
        go_wp2_with fail
        (with_reducible refine (HHP.out _).mono ?_); rintro e w4 ⟨rfl, n, rfl⟩
        have HD2 := Aside0.mk (HD.out.drewN n)
        have c1 := HD2.out.c0
        have q2 : (wr.drewN n).cell? (ad.add (i * 2)) = some (.string kx) := q0
        have q3 : (wr.drewN n).cell? ⟨(ad.add (i * 2)).block, (ad.add (i * 2)).off + 1, none⟩ = some (.int .i64 pv) := q1
        have HK2 := Aside0.mk (HK.out.drewN n)
        clear c0 q0 q1 HD HK
        generalize wr.drewN n = wy at *
        go_wp2_with (first | (at_builtin; refine Kd.R_append k79 _ rfl (.tmp 26) (.tmp 34) 46 79 (.agg #[(.string ⟨#[]⟩), (.int .i64 0)]) 24 rfl Try.underlying46 info79 rfl (by decide) (by omega) (.slice A2 (outD L q i).length c2) (outD L q i) ⟨kx, pv⟩ [.string kx, .int .i64 pv] (fun _ => True) (fun _ => False) rfl rfl (k79_mkM _ _ _ _) (fun _ h => h.elim) (fun _ _ => trivial) HK2.out.o HK2.out.f HK2.out.f.size (by omega) ?_; intro v4 w4 hv4 hb4 hg4 hx4; have HK3 : Aside0 (DK w w4 v4 (outD L q i ++ [⟨kx, pv⟩])) := ⟨⟨hv4, hb4⟩⟩; obtain ⟨A4, c4, e4⟩ := Kd.R_slice hv4; subst e4; clear hv4 hb4 hg4 hx4))
        go_roundw
        case rel => exact ⟨i + 1, A4, c4, by go_num, by rw [HOS.out, List.length_append]; rfl, by omega, by rw [HOS.out]; exact HK3⟩
        case measure => simp [intOf]; omega
    · obtain rfl : i = L.length := by omega
      have l1 : decide ((L.length : Int) < (L.length : Int)) = false := decide_eq_false (by omega)
      have HE := Lib.hid (outD_all L q)
      rw [HE.out] at HK
      clear hol
      go_wp2
      go_ret
      exact ⟨A2, c2, by rw [HE.out]; rfl, HK.out.o, Frm.of_below HK.out.f⟩
set_option maxHeartbeats 2000000 in
theorem DI.text (h : DI w0 w r A c L) (q : ByteArray) : Calls Try.prog 32 #[.pointer (some ⟨r, 0, none⟩), .string q] w fun e w' => e = .returned (.string (textB (L.filter fun x => bgn x.f0 q))) ∧ Frm (fun _ => False) w w' := by
  have HSM := Lib.hid (fun (x : S79) (hx : x ∈ L.filter fun x => bgn x.f0 q) => h.sm x (List.mem_filter.1 hx).1)
  have hll := Nat.le_trans (List.length_filter_le (fun x : S79 => bgn x.f0 q) L) h.few
  have HL := Aside0.mk (h.list q)
  generalize (L.filter fun x => bgn x.f0 q) = M at *
  clear h
  go_enter Try.func32, Try.ntmps32
  go_wp2_with fail
  (with_reducible refine HL.out.mono ?_); rintro e w2 ⟨B, d, rfl, hr, hf⟩
  have HR := Aside0.mk (Kd.R_lower hr (Nat.zero_le _))
  have HF := Aside0.mk hf
  clear hr hf HL
  go_wp2
  go_loopw [6, 7] (fun v6 v7 wr => ∃ i : Nat, v7 = .int .i64 (i : Nat) ∧ v6 = .string (textB (M.take i)) ∧ i ≤ M.length ∧ Aside0 (Frm (fun _ => False) w2 wr)) (fun _ v7 _ => M.length - (intOf v7).toNat)
  case atStart => exact ⟨0, rfl, rfl, Nat.zero_le _, ⟨Frm.refl _ _⟩⟩
  case round =>
    obtain ⟨i, rfl, rfl, hi, HW⟩ := hrel
    by_cases hlt : i < M.length
    · obtain ⟨ad, rfl, q0, q1⟩ := at_T79 (Kd.R_reads' (rowA HR.out HW.out (fun _ _ _ e => e.elim))).2.2 (i : Int) (by omega) (by omega)
      have er : rd_T79 M (i : Int) = M.getD i z79 := by unfold rd_T79; rw [Int.toNat_natCast]
      rw [er, Int.toNat_natCast] at q0 q1
      obtain ⟨x, hx⟩ : ∃ x, x = M.getD i z79 := ⟨_, rfl⟩
      have hxs : x.f0.size ≤ 1000 := by rw [hx, List.getD_eq_getElem?_getD, List.getElem?_eq_getElem hlt]; exact HSM.out _ (List.getElem_mem hlt)
      have HTS := Lib.hid (take_snoc hlt)
      have htl : (textB (M.take i)).size ≤ 110000000 := by
        have h1 := textB_len (l := M.take i) (fun c hc => HSM.out c (List.mem_of_mem_take hc))
        have h3 : (M.take i).length ≤ M.length := by rw [List.length_take]; omega
        have := Nat.mul_le_mul_left 1100 h3
        omega
      rw [← hx] at q0 q1 HTS
      obtain ⟨nm, nv⟩ := x
      have hln : lineB ⟨nm, nv⟩ = nm ++ ⟨#[32]⟩ ++ digB nv ++ ⟨#[10]⟩ := rfl
      rw [hln] at HTS
      have hdl := digB_len nv
      have HDG : Aside0 (∀ w, Calls Try.prog 53 #[.int .i64 nv] w fun e w' => e = .returned (.string (digB nv)) ∧ Frm (fun _ => False) w w') := ⟨rdig_any nv⟩
      generalize digB nv = dg at *
      generalize textB (M.take i) = tx at *
      simp only at q0 q1 hxs
      clear er hx hln
      have h32 : (⟨#[32]⟩ : ByteArray).size = 1 := rfl
      have h10 : (⟨#[10]⟩ : ByteArray).size = 1 := rfl
      have e0 : (9223372036854775807 < tx.size + nm.size) = False := eq_false (by omega)
      have e1 : (9223372036854775807 < tx.size + nm.size + 1) = False := eq_false (by omega)
      have e2 : (9223372036854775807 < tx.size + nm.size + 1 + dg.size) = False := eq_false (by omega)
      have e3 : (9223372036854775807 < tx.size + nm.size + 1 + dg.size + 1) = False := eq_false (by omega)
      have HWd := Aside0.mk (HW.out.drew)
      go_upto_region 6 with (fail)
      go_region_held3 (fun w' => w'.cell? (ad.add (i * 2)) = some (.string nm) ∧ w'.cell? ⟨(ad.add (i * 2)).block, (ad.add (i * 2)).off + 1, none⟩ = some (.int .i64 nv)) (go_keep) (first | (go_at_call 53; refine (HDG.out _).mono ?_; rintro e w3 ⟨rfl, hf3⟩; have HF3 := Aside0.mk ((show Frm (fun _ => False) w2 _ from by first | exact HWd.out | exact HW.out | exact HW.out.drewN _).trans hf3); have q0 := hf3.cell q0 (fun e => e); have q1 := hf3.cell q1 (fun e => e); clear hf3))
      all_goals go_wp2
      all_goals exact ⟨⟨i + 1, by go_num, by rw [HTS.out]; simp only [ByteArray.append_assoc], by omega, HF3⟩, by simp [intOf]; omega⟩
    · obtain rfl : i = M.length := by omega
      have l1 : decide ((M.length : Int) < (M.length : Int)) = false := decide_eq_false (by omega)
      rw [List.take_length]
      go_wp2
      go_ret
      exact ⟨rfl, HF.out.trans HW.out⟩
end
end Go.Proofs.Ytehlhaddbfjllaa.Mp
