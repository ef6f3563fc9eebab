/- Maps of texts to numbers, and what counts in them: a part of the proof. -/
import Derived.Test.YtehlhaddbfjllaaOSI
namespace Go.Proofs.Ytehlhaddbfjllaa.Mp
open Go.RowKit Go.Sort Go.Proofs.YtehlhaddbfjllaaW.PrintWords Go.Proofs.YtehlhaddbfjllaaW.PrintLast Go.Proofs.YtehlhaddbfjllaaW.PrintMore Go.Proofs.Ytehlhaddbfjllaa.PStatActs
set_option maxRecDepth 100000
set_option linter.unusedVariables false
set_option maxHeartbeats 1000000 in
theorem SI.does {w0 w : World} {p mb : Nat} {K : List KV} (h : SI w0 w p mb K) (x : S53) (hs : x.f1.size ≤ 900) (hf : K.length + 6 ≤ 100000) : Calls Try.prog 23 #[.pointer (some ⟨p, 0, none⟩), .agg #[.int .i64 x.f0, .string x.f1, .int .i64 x.f2, .int .i64 x.f3.f0, .int .i64 x.f3.f1, .bool x.f3.f2, .int .i64 x.f3.f3, .int .i64 x.f3.f4, .int .i64 x.f3.f5, .bool x.f4]] w fun e w' => e = .returned (.tuple #[]) ∧ SI w0 w' p mb (addsK K (actA x)) ∧ Frm (fun i => i = mb) w w' := by
  obtain ⟨x0, x1, x2, ⟨v0, v1, v2, v3, v4, v5⟩, x4⟩ := x
  have HS := Lib.hid (show x1.size ≤ 900 from hs)
  have HF := Lib.hid hf
  show Calls Try.prog 23 #[.pointer (some ⟨p, 0, none⟩), .agg #[.int .i64 x0, .string x1, .int .i64 x2, .int .i64 v0, .int .i64 v1, .bool v2, .int .i64 v3, .int .i64 v4, .int .i64 v5, .bool x4]] w _
  have fa : Frm (fun i => i = mb) w (w.alloc (.cells #[.int .i64 x0, .string x1, .int .i64 x2, .int .i64 v0, .int .i64 v1, .bool v2, .int .i64 v3, .int .i64 v4, .int .i64 v5, .bool x4] 53)) := (Frm.refl _ w).alloc _
  have HA := Aside0.mk (h.movedN (show Frm (fun _ => False) w (w.alloc (.cells #[.int .i64 x0, .string x1, .int .i64 x2, .int .i64 v0, .int .i64 v1, .bool v2, .int .i64 v3, .int .i64 v4, .int .i64 v5, .bool x4] 53)) from (Frm.refl _ w).alloc _))
  have HFA := Aside0.mk fa
  by_cases hk : x0 = 0
  · subst hk
    have HAC := Lib.hid (show actA ⟨0, x1, x2, ⟨v0, v1, v2, v3, v4, v5⟩, x4⟩ = [(x1, x2)] from rfl)
    clear h hs hf fa
    go_enter Try.func23, Try.ntmps23
    go_wp2_with fail
    (with_reducible refine (HA.out.add x1 (by have := HS.out; omega) (by have := HF.out; omega) x2).mono ?_); rintro e w2 ⟨rfl, h2, f2⟩
    have H2 := Aside0.mk h2
    have F2 := Aside0.mk (HFA.out.trans f2)
    clear h2 f2
    go_wp2
    (try simp only [Exit.inBlock, Exit.then])
    refine bodyPost_ret (results_none rfl _ _ _) rfl ?_
    refine ⟨rfl, ?_, F2.out⟩
    rw [HAC.out]
    exact H2.out
  · have t1 : (x0 == 0) = false := by simpa using hk
    have HAC := Lib.hid (show actA ⟨x0, x1, x2, ⟨v0, v1, v2, v3, v4, v5⟩, x4⟩ = noteA x1 ⟨v0, v1, v2, v3, v4, v5⟩ x4 from if_neg hk)
    clear h hs hf fa hk
    go_enter Try.func23, Try.ntmps23
    go_wp2_with fail
    (with_reducible refine (HA.out.note x1 HS.out HF.out ⟨v0, v1, v2, v3, v4, v5⟩ x4).mono ?_); rintro e w2 ⟨rfl, h2, f2⟩
    have H2 := Aside0.mk h2
    have F2 := Aside0.mk (HFA.out.trans f2)
    clear h2 f2
    go_wp2
    go_end0
    refine ⟨rfl, ?_, F2.out⟩
    rw [HAC.out]
    exact H2.out
theorem nd_nil : ND [] := List.nodup_nil
theorem light_l0 (l : List S53) (hN : l.length ≤ 9223372036854775807) : ∀ d i k, l.length = i + d → 2 * d + 2 ≤ k → ∃ r, turncocklaw27_light.l0 k l (i : Int) = some r ∧ (r = true → l.length ≤ 100 ∧ ∀ q, i ≤ q → q < l.length → (l.getD q z53).f1.size ≤ 100)
  | 0, i, k, hd, hk => by
    obtain ⟨k, rfl⟩ : ∃ m, k = m + 2 := ⟨k - 2, by omega⟩
    simp only [turncocklaw27_light.l0, turncocklaw27_light.j1]
    rw [if_neg (by omega), if_neg (by decide)]
    exact ⟨_, rfl, fun h => ⟨by have := of_decide_eq_true h; omega, fun q h1 h2 => by omega⟩⟩
  | d + 1, i, k, hd, hk => by
    obtain ⟨k, rfl⟩ : ∃ m, k = m + 2 := ⟨k - 2, by omega⟩
    simp only [turncocklaw27_light.l0, turncocklaw27_light.j1]
    rw [if_pos (by omega)]
    by_cases h3 : (i : Int) < 200
    · rw [decide_eq_true h3, if_pos rfl, if_pos (by omega), if_pos (by omega)]
      have e : rd_T53 l (i : Int) = l.getD i z53 := by unfold rd_T53; rw [Int.toNat_natCast]
      rw [e]
      by_cases hs : (((l.getD i z53).f1.size : Nat) : Int) > 100
      · rw [if_pos hs]; exact ⟨_, rfl, fun h => by cases h⟩
      · rw [if_neg hs, show wrap64 ((i : Int) + 1) = ((i + 1 : Nat) : Int) from by unfold wrap64; omega]
        obtain ⟨r, hr, h⟩ := light_l0 l hN d (i + 1) k (by omega) (by omega)
        refine ⟨r, hr, fun ht => ⟨(h ht).1, fun q h1 h2 => ?_⟩⟩
        by_cases hq : q = i
        · subst hq; omega
        · exact (h ht).2 q (by omega) h2
    · rw [decide_eq_false h3, if_neg (by decide)]
      exact ⟨_, rfl, fun h => by have := of_decide_eq_true h; omega⟩
theorem light_f (l : List S53) (hN : l.length ≤ 9223372036854775807) : ∃ r, turncocklaw27_light.f (2 * l.length + 2) l = some r ∧ (r = true → l.length ≤ 100 ∧ ∀ q, q < l.length → (l.getD q z53).f1.size ≤ 100) := by
  obtain ⟨r, hr, h⟩ := light_l0 l hN l.length 0 (2 * l.length + 2) (by omega) (by omega)
  exact ⟨r, hr, fun ht => ⟨(h ht).1, fun q hq => (h ht).2 q (by omega) hq⟩⟩
theorem same_l0 (l : List S79) (hN : l.length ≤ 1000000) : ∀ d i k, i + d = l.length → d < k → turncockref20_SameCounts.l0 k l l (i : Int) = some true
  | 0, i, k, hd, hk => by
    obtain ⟨k, rfl⟩ : ∃ m, k = m + 1 := ⟨k - 1, by omega⟩
    simp only [turncockref20_SameCounts.l0]
    rw [if_neg (by omega)]
  | d + 1, i, k, hd, hk => by
    obtain ⟨k, rfl⟩ : ∃ m, k = m + 1 := ⟨k - 1, by omega⟩
    simp only [turncockref20_SameCounts.l0]
    rw [if_pos (by omega), if_pos (by omega), if_pos (by omega), if_neg (by simp), show wrap64 ((i : Int) + 1) = ((i + 1 : Nat) : Int) from by unfold wrap64; omega]
    exact same_l0 l hN d (i + 1) k (by omega) (by omega)
theorem same_any (l : List S79) (hN : l.length ≤ 1000000) {A : Option Addr} {c : Nat} {A1 : Option Addr} {c1 : Nat} {w : World} {b b1 : Nat} (hr : Kd.R k79 79 w b (fun _ => True) (.slice A l.length c) l) (hr1 : Kd.R k79 79 w b1 (fun _ => True) (.slice A1 l.length c1) l) :
    Calls Try.prog 28 #[.slice A l.length c, .slice A1 l.length c1] w fun e w' => e = .returned (.bool true) ∧ Frm (fun _ => False) w w' := by
  have q := Kd.R_reads' hr
  have q1 := Kd.R_reads' hr1
  refine (turncockref20_SameCounts.calls (l.length + 1) A c l A1 c1 l true w q.2.2 q.2.1 q1.2.2 q1.2.1 ?_).mono ?_
  · unfold turncockref20_SameCounts.f
    rw [if_pos rfl]
    exact same_l0 l hN l.length 0 (l.length + 1) (by omega) (by omega)
  · rintro e w' ⟨he, ⟨n, rfl⟩⟩
    exact ⟨he, (Frm.refl _ w).drewN n⟩
/-- Two Stats in one world. -/
structure S2 (w0 w : World) (pa ma pb mb : Nat) (K M : List KV) : Prop where
  a : SI w0 w pa ma K
  b : SI w0 w pb mb M
  ne : ma ≠ mb
section
variable {w0 w w1 : World} {pa ma pb mb : Nat} {K M : List KV}
theorem S2.movedN (h : S2 w0 w pa ma pb mb K M) (f : Frm (fun _ => False) w w1) : S2 w0 w1 pa ma pb mb K M := ⟨h.a.movedN f, h.b.movedN f, h.ne⟩
theorem S2.swap (h : S2 w0 w pa ma pb mb K M) : S2 w0 w pb mb pa ma M K := ⟨h.b, h.a, h.ne.symm⟩
theorem S2.movedA {K' : List KV} (h : S2 w0 w pa ma pb mb K M) (h' : SI w0 w1 pa ma K') (f : Frm (fun i => i = ma) w w1) : S2 w0 w1 pa ma pb mb K' M := by
  refine ⟨h', ⟨h.a.keep f h.b.hd, h.b.m.frm (f.block mb h.b.m.lt (fun e => h.ne e.symm)), h.b.few, h.b.sm, h.b.lp, h.b.lm, h.b.f.then f (fun i hi e => by have := h.a.lm; omega)⟩, h.ne⟩
theorem S2.doesA (h : S2 w0 w pa ma pb mb K M) (x : S53) (hs : x.f1.size ≤ 900) (hf : K.length + 6 ≤ 100000) : Calls Try.prog 23 #[.pointer (some ⟨pa, 0, none⟩), .agg #[.int .i64 x.f0, .string x.f1, .int .i64 x.f2, .int .i64 x.f3.f0, .int .i64 x.f3.f1, .bool x.f3.f2, .int .i64 x.f3.f3, .int .i64 x.f3.f4, .int .i64 x.f3.f5, .bool x.f4]] w fun e w' => e = .returned (.tuple #[]) ∧ S2 w0 w' pa ma pb mb (addsK K (actA x)) M := by
  refine (h.a.does x hs hf).mono ?_
  rintro e w' ⟨a, b, f⟩
  exact ⟨a, h.movedA b f⟩
theorem S2.doesB (h : S2 w0 w pa ma pb mb K M) (x : S53) (hs : x.f1.size ≤ 900) (hf : M.length + 6 ≤ 100000) : Calls Try.prog 23 #[.pointer (some ⟨pb, 0, none⟩), .agg #[.int .i64 x.f0, .string x.f1, .int .i64 x.f2, .int .i64 x.f3.f0, .int .i64 x.f3.f1, .bool x.f3.f2, .int .i64 x.f3.f3, .int .i64 x.f3.f4, .int .i64 x.f3.f5, .bool x.f4]] w fun e w' => e = .returned (.tuple #[]) ∧ S2 w0 w' pa ma pb mb K (addsK M (actA x)) := by
  refine (h.swap.doesA x hs hf).mono ?_
  rintro e w' ⟨a, b⟩
  exact ⟨a, b.swap⟩
theorem SI.from_ {a : World} {p mb : Nat} (h : SI a w p mb K) (f : Frm (fun _ => False) w0 a) : SI w0 w p mb K := ⟨h.hd, h.m, h.few, h.sm, Nat.le_trans f.size h.lp, Nat.le_trans f.size h.lm, f.trans h.f⟩
theorem s2_start {a w1 w2 : World} (f : Frm (fun _ => False) w0 a) (h1 : SI a w1 pa ma []) (h2 : SI w1 w2 pb mb []) : S2 w0 w2 pa ma pb mb [] [] :=
  ⟨(h1.from_ f).movedN h2.f, h2.from_ (f.trans h1.f), fun e => by have := h1.m.lt; have := h2.lm; omega⟩
end
theorem so_out (A : Option Addr) (c : Nat) (l : List S53) (fr : Int) (w : World) (hr : Kd.C k53 w A l.length l) (hc : l.length ≤ c) {r : Bool} (hl : turncocklaw27_light.f (2 * l.length + 2) l = some r) (h : r = false ∨ l.length = 0 ∨ fr < 0 ∨ (l.length : Int) ≤ fr) :
    Calls Try.prog 9 #[.slice A l.length c, .int .i64 fr] w fun e w' => e = .returned (.bool true) ∧ Frm (fun _ => False) w w' := by
  have HR := Aside0.mk hr
  have HL := Lib.hid hl
  clear hr hl
  cases r with
  | false =>
    clear h
    go_enter Try.func9, Try.ntmps9
    go_wp2_with fail
    (with_reducible refine (turncocklaw27_light.calls (2 * l.length + 2) A c l false _ HR.out hc HL.out).mono ?_); rintro e w1 ⟨rfl, q, rfl⟩
    go_wp2_with fail
    (with_reducible refine (awake_any _).mono ?_); rintro e w3 ⟨rfl, hf3⟩
    have HF3 := Aside0.mk hf3
    clear hf3
    go_wp2
    go_ret
    exact ⟨rfl, ((Frm.refl _ w).drewN q).trans HF3.out⟩
  | true =>
    by_cases h1 : l.length = 0
    · have d1 : decide (l.length = 0) = true := decide_eq_true h1
      have d2 : ((l.length : Int) == 0) = true := by simp [h1]
      have HD1 := Lib.hid d1
      have HD2 := Lib.hid d2
      clear h h1 d1 d2
      go_enter Try.func9, Try.ntmps9
      go_wp2_with fail
      (with_reducible refine (turncocklaw27_light.calls (2 * l.length + 2) A c l true _ HR.out hc HL.out).mono ?_); rintro e w1 ⟨rfl, q, rfl⟩
      have d1 := HD1.out
      have d2 := HD2.out
      go_wp2_with fail
      (with_reducible refine (awake_any _).mono ?_); rintro e w3 ⟨rfl, hf3⟩
      have HF3 := Aside0.mk hf3
      clear hf3
      go_wp2
      go_ret
      exact ⟨rfl, ((Frm.refl _ w).drewN q).trans HF3.out⟩
    have d1 : decide (l.length = 0) = false := decide_eq_false h1
    have d2 : ((l.length : Int) == 0) = false := by simpa using h1
    by_cases h2 : fr < 0
    · have d3 : decide (fr < 0) = true := decide_eq_true h2
      clear h h1 h2
      go_enter Try.func9, Try.ntmps9
      go_wp2_with fail
      (with_reducible refine (turncocklaw27_light.calls (2 * l.length + 2) A c l true _ HR.out hc HL.out).mono ?_); rintro e w1 ⟨rfl, q, rfl⟩
      go_wp2_with fail
      (with_reducible refine (awake_any _).mono ?_); rintro e w3 ⟨rfl, hf3⟩
      have HF3 := Aside0.mk hf3
      clear hf3
      go_wp2
      go_ret
      exact ⟨rfl, ((Frm.refl _ w).drewN q).trans HF3.out⟩
    have d3 : decide (fr < 0) = false := decide_eq_false h2
    have h3 : (l.length : Int) ≤ fr := by
      rcases h with h | h | h | h
      · cases h
      · exact absurd h h1
      · exact absurd h h2
      · exact h
    have d4 : decide ((l.length : Int) ≤ fr) = true := decide_eq_true h3
    clear h h1 h2 h3
    go_enter Try.func9, Try.ntmps9
    go_wp2_with fail
    (with_reducible refine (turncocklaw27_light.calls (2 * l.length + 2) A c l true _ HR.out hc HL.out).mono ?_); rintro e w1 ⟨rfl, q, rfl⟩
    go_wp2_with fail
    (with_reducible refine (awake_any _).mono ?_); rintro e w3 ⟨rfl, hf3⟩
    have HF3 := Aside0.mk hf3
    clear hf3
    go_wp2
    go_ret
    exact ⟨rfl, ((Frm.refl _ w).drewN q).trans HF3.out⟩
set_option maxHeartbeats 4000000 in
theorem so_walk (A : Option Addr) (c : Nat) (l : List S53) (fr : Nat) (w : World) (hr : Kd.C k53 w A l.length l) (hc : l.length ≤ c) (hl : turncocklaw27_light.f (2 * l.length + 2) l = some true) (h100 : l.length ≤ 100) (hsz : ∀ q, q < l.length → (l.getD q z53).f1.size ≤ 100) (h0 : 0 < l.length) (hfr : fr < l.length) :
    Calls Try.prog 9 #[.slice A l.length c, .int .i64 (fr : Int)] w fun e w' => e = .returned (.bool true) ∧ Frm (fun _ => False) w w' := by
  have HR := Aside0.mk hr
  have HL := Lib.hid hl
  have HS := Lib.hid hsz
  have d1 : decide (l.length = 0) = false := decide_eq_false (by omega)
  have d2 : ((l.length : Int) == 0) = false := by simp; intro e; simp [e] at h0
  have d3 : decide ((fr : Int) < 0) = false := decide_eq_false (by omega)
  have d4 : decide ((l.length : Int) ≤ (fr : Int)) = false := decide_eq_false (by omega)
  have d4' : decide (l.length ≤ fr) = false := decide_eq_false (by omega)
  clear hr hl hsz
  go_enter Try.func9, Try.ntmps9
  go_wp2_with fail
  (with_reducible refine (turncocklaw27_light.calls (2 * l.length + 2) A c l true _ HR.out hc HL.out).mono ?_); rintro e w1 ⟨rfl, q, rfl⟩
  go_wp2_with fail
  (with_reducible refine (snew_any _).mono ?_); rintro e w1 ⟨pa, ma, rfl, h1⟩
  have H1 := Aside0.mk h1
  clear h1
  go_wp2_with fail
  (with_reducible refine (snew_any _).mono ?_); rintro e w2 ⟨pb, mb, rfl, h2⟩
  have HP := Aside0.mk (s2_start ((Frm.refl _ w).drewN q) H1.out h2)
  clear h2 H1
  go_wp2
  go_loopw [7] (fun v7 wr => ∃ i : Nat, v7 = .int .i64 (i : Nat) ∧ i ≤ l.length ∧ Aside0 (S2 w wr pa ma pb mb (addsK [] ((l.take i).flatMap actA)) (addsK [] (((rotL l fr).take i).flatMap actA)))) (fun v7 _ => l.length - (intOf v7).toNat)
  case atStart => exact ⟨0, rfl, Nat.zero_le _, HP⟩
  case round =>
    clear HP
    obtain ⟨i, rfl, hi, HI⟩ := hrel
    by_cases hlt : i < l.length
    · have hb1 := flat_len (l.take i)
      have hb2 := flat_len ((rotL l fr).take i)
      have hb3 := addsK_len ((l.take i).flatMap actA) []
      have hb4 := addsK_len (((rotL l fr).take i).flatMap actA) []
      have hb5 := List.length_take_le i l
      have hb6 := List.length_take_le i (rotL l fr)
      have HT1 := Lib.hid (take_flat hlt [])
      have HT2 := Lib.hid (take_flat (l := rotL l fr) (i := i) (by rw [rotL_len]; exact hlt) [])
      have HRT := Lib.hid (rotL_at hfr hlt)
      have HB1 := Lib.hid (show (addsK [] ((l.take i).flatMap actA)).length + 6 ≤ 100000 by have z : ([] : List KV).length = 0 := rfl; omega)
      have HB2 := Lib.hid (show (addsK [] (((rotL l fr).take i).flatMap actA)).length + 6 ≤ 100000 by have z : ([] : List KV).length = 0 := rfl; omega)
      clear hb1 hb2 hb3 hb4 hb5 hb6
      generalize addsK [] ((l.take i).flatMap actA) = K at *
      generalize addsK [] (((rotL l fr).take i).flatMap actA) = M at *
      obtain ⟨j, hj⟩ : ∃ j, j = (i + fr) % l.length := ⟨_, rfl⟩
      have hjl : j < l.length := by rw [hj]; exact Nat.mod_lt _ h0
      have hjm : Int.tmod ((i : Int) + (fr : Int)) (l.length : Int) = (j : Int) := by
        rw [Int.tmod_eq_emod_of_nonneg (by omega), hj]
        push_cast
        rfl
      rw [← hj] at HRT
      rw [HRT.out] at HT2
      obtain ⟨adp, hadp, p0, p1, p2, p3, p4, p5, p6, p7, p8, p9⟩ := at_T53 HR.out ((i : Nat) : Int) (by omega) (by omega)
      obtain ⟨adq, hadq, q0, q1, q2, q3, q4, q5, q6, q7, q8, q9⟩ := at_T53 HR.out ((j : Nat) : Int) (by omega) (by omega)
      have er1 : rd_T53 l ((i : Nat) : Int) = l.getD i z53 := by unfold rd_T53; rw [Int.toNat_natCast]
      have er2 : rd_T53 l ((j : Nat) : Int) = l.getD j z53 := by unfold rd_T53; rw [Int.toNat_natCast]
      rw [er1, Int.toNat_natCast] at p0 p1 p2 p3 p4 p5 p6 p7 p8 p9
      rw [er2, Int.toNat_natCast] at q0 q1 q2 q3 q4 q5 q6 q7 q8 q9
      have hadq2 := hadp.symm.trans hadq
      obtain rfl := Option.some.inj hadq2
      subst hadp
      have HS1 := Lib.hid (HS.out i hlt)
      have HS2 := Lib.hid (HS.out j hjl)
      clear hadq hadq2 er1 er2 hj HRT
      generalize l.getD i z53 = x at *
      generalize l.getD j z53 = y at *
      have p0 := HI.out.a.f.cell p0 (fun e => e)
      have p1 := HI.out.a.f.cell p1 (fun e => e)
      have p2 := HI.out.a.f.cell p2 (fun e => e)
      have p3 := HI.out.a.f.cell p3 (fun e => e)
      have p4 := HI.out.a.f.cell p4 (fun e => e)
      have p5 := HI.out.a.f.cell p5 (fun e => e)
      have p6 := HI.out.a.f.cell p6 (fun e => e)
      have p7 := HI.out.a.f.cell p7 (fun e => e)
      have p8 := HI.out.a.f.cell p8 (fun e => e)
      have p9 := HI.out.a.f.cell p9 (fun e => e)
      have hjm2 : decide (l.length = 0) = false := d1
      have hwr : IntKind.i64.wrap ((i : Int) + (fr : Int)) = (i : Int) + (fr : Int) := by rw [IntKind.wrap_i64]; omega
      go_wp2_with fail
      (with_reducible refine (HI.out.doesA x (by have := HS1.out; omega) HB1.out).mono ?_); rintro e w3 ⟨rfl, h3⟩
      have H3 := Aside0.mk h3
      clear h3 p0 p1 p2 p3 p4 p5 p6 p7 p8 p9
      have q0 := H3.out.a.f.cell q0 (fun e => e)
      have q1 := H3.out.a.f.cell q1 (fun e => e)
      have q2 := H3.out.a.f.cell q2 (fun e => e)
      have q3 := H3.out.a.f.cell q3 (fun e => e)
      have q4 := H3.out.a.f.cell q4 (fun e => e)
      have q5 := H3.out.a.f.cell q5 (fun e => e)
      have q6 := H3.out.a.f.cell q6 (fun e => e)
      have q7 := H3.out.a.f.cell q7 (fun e => e)
      have q8 := H3.out.a.f.cell q8 (fun e => e)
      have q9 := H3.out.a.f.cell q9 (fun e => e)
      go_wp2_with fail
      (with_reducible refine (H3.out.doesB y (by have := HS2.out; omega) HB2.out).mono ?_); rintro e w4 ⟨rfl, h4⟩
      have H4 := Aside0.mk h4
      clear h4 H3 q0 q1 q2 q3 q4 q5 q6 q7 q8 q9
      go_wp2
      go_roundw
      case rel => exact ⟨i + 1, by go_num, by omega, ⟨by rw [HT1.out, HT2.out]; exact H4.out⟩⟩
      case measure => simp [intOf]; omega
    · obtain rfl : i = l.length := by omega
      have l1 : decide ((l.length : Int) < (l.length : Int)) = false := decide_eq_false (by omega)
      rw [List.take_length] at HI
      rw [show (rotL l fr).take l.length = rotL l fr from by rw [← rotL_len l fr, List.take_length]] at HI
      have hpm : (addsK [] (l.flatMap actA)).Perm (addsK [] ((rotL l fr).flatMap actA)) := addsK_perm ((rotL_perm l fr).flatMap_right actA).symm nd_nil
      have hle := listK_perm (addsK_nd nd_nil) hpm ⟨#[]⟩
      have HA1 := Aside0.mk (HI.out.a.list ⟨#[]⟩)
      have HB1 : Aside0 (∀ {w1}, Frm (fun _ => False) wr w1 → Calls Try.prog 29 #[.pointer (some ⟨pb, 0, none⟩), .string ⟨#[]⟩] w1 fun e w' => ∃ (A : Option Addr) (c : Nat), e = .returned (.slice A (listK (addsK [] (l.flatMap actA)) ⟨#[]⟩).length c) ∧ Kd.R k79 79 w' w1.heap.size (fun _ => True) (.slice A (listK (addsK [] (l.flatMap actA)) ⟨#[]⟩).length c) (listK (addsK [] (l.flatMap actA)) ⟨#[]⟩) ∧ Frm (fun _ => False) w1 w') := ⟨fun f => by rw [hle]; exact (HI.out.b.movedN f).list ⟨#[]⟩⟩
      have HLL : Hid ((listK (addsK [] (l.flatMap actA)) ⟨#[]⟩).length ≤ 1000000) := Lib.hid (by have h1 := listK_len (addsK [] (l.flatMap actA)) ⟨#[]⟩; have h2 := HI.out.a.few; omega)
      generalize listK (addsK [] (l.flatMap actA)) ⟨#[]⟩ = L at *
      clear hle hpm
      go_wp2_with fail
      (with_reducible refine HA1.out.mono ?_); rintro e w3 ⟨A3, c3, rfl, hr3, f3⟩
      have HR3 := Aside0.mk hr3
      have HF3 := Aside0.mk f3
      clear hr3 f3 HA1
      go_wp2_with fail
      (with_reducible refine (HB1.out HF3.out).mono ?_); rintro e w4 ⟨A4, c4, rfl, hr4, f4⟩
      have HR4 := Aside0.mk hr4
      have HR3 := Aside0.mk (rowA HR3.out f4 (fun _ _ _ e => e.elim))
      have HF4 := Aside0.mk (HF3.out.trans f4)
      clear hr4 f4 HB1
      go_wp2_with fail
      (with_reducible refine (same_any L HLL.out HR3.out HR4.out).mono ?_); rintro e w5 ⟨rfl, f5⟩
      have HF5 := Aside0.mk (HF4.out.trans f5)
      clear f5
      go_wp2_with fail
      (with_reducible refine (awake_any _).mono ?_); rintro e w6 ⟨rfl, f6⟩
      have HF6 := Aside0.mk (HI.out.a.f.trans (HF5.out.trans f6))
      clear f6
      go_wp2
      go_ret
      exact ⟨rfl, HF6.out⟩
theorem statOrder_calls (A : Option Addr) (c : Nat) (l : List S53) (fr : Int) (w : World) (hr : Kd.C k53 w A l.length l) (hc : l.length ≤ c) (hm : l.length ≤ maxLen) :
    Calls Try.prog 9 #[.slice A l.length c, .int .i64 fr] w fun e w' => e = .returned (.bool true) ∧ Below w.heap.size w w' := by
  have fin : ∀ {e : Ending} {w' : World}, (e = .returned (.bool true) ∧ Frm (fun _ => False) w w') → (e = .returned (.bool true) ∧ Below w.heap.size w w') := fun h => ⟨h.1, h.2.to_below⟩
  obtain ⟨r, h1, h2⟩ := light_f l (by unfold maxLen at hm; omega)
  by_cases hb : r = false ∨ l.length = 0 ∨ fr < 0 ∨ (l.length : Int) ≤ fr
  · exact (so_out A c l fr w hr hc h1 hb).mono fun e w' h => fin h
  obtain rfl : r = true := by cases r; exact absurd (.inl rfl) hb; rfl
  have hb' : ¬ (l.length = 0 ∨ fr < 0 ∨ (l.length : Int) ≤ fr) := fun e => hb (.inr e)
  obtain ⟨k, rfl⟩ : ∃ k : Nat, fr = (k : Int) := ⟨fr.toNat, by omega⟩
  exact (so_walk A c l k w hr hc h1 (h2 rfl).1 (h2 rfl).2 (by omega) (by omega)).mono fun e w' h => fin h
end Go.Proofs.Ytehlhaddbfjllaa.Mp
