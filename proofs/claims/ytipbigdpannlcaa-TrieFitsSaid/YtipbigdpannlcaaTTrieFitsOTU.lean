/- What the law TrieFits uses, thinned: printed by shake2.py. -/
import Derived.Test.YtipbigdpannlcaaTTrieFitsOTT
import Derived.Test.YtipbigdpannlcaaTTrieFitsPTrieFitsx14
namespace Go.Proofs.Ytipbigdpannlcaa.Tr
open Go.RowKit Go.Proofs.YtipbigdpannlcaaW.PrintWords Go.Proofs.YtipbigdpannlcaaW.PrintLast Go.Proofs.YtipbigdpannlcaaW.PrintMore Go.Proofs.Ytipbigdpannlcaa.PTrieFits Go.Proofs.Ytipbigdpannlcaa.Pure
set_option maxRecDepth 100000
set_option linter.unusedVariables false
set_option linter.unusedSimpArgs false
def smallC : Cfg := match turncocklaw18_small.f with
  | some (a, b) => ⟨a, b⟩
  | none => ⟨[], []⟩
theorem chk_small : chk mayB nameB smallC = true := by decide +kernel
theorem m1 : matchV smallC ⟨#[115, 104, 111, 112]⟩ [⟨⟨#[117, 115, 101, 114]⟩, ⟨#[98, 111, 98]⟩⟩] = some 1 := by decide +kernel
theorem m2 : matchV smallC ⟨#[115, 104, 111, 112]⟩ [⟨⟨#[117, 115, 101, 114]⟩, ⟨#[97, 108]⟩⟩] = some 0 := by decide +kernel
theorem m3 : matchV smallC ⟨#[112, 97, 121]⟩ [⟨⟨#[117, 115, 101, 114]⟩, ⟨#[97, 108]⟩⟩] = none := by decide +kernel
theorem p1 : pathV smallC 1 = ⟨#[115, 104, 111, 112, 44, 117, 115, 101, 114, 61, 98, 111, 98]⟩ := by decide +kernel
theorem p0 : pathV smallC 0 = ⟨#[115, 104, 111, 112, 44, 117, 115, 101, 114]⟩ := by decide +kernel
theorem p2 : pathV smallC 2 = ⟨#[]⟩ := by decide +kernel
theorem r1 : ruleV smallC 1 = (⟨⟨#[]⟩, 2, 10, 4605380978949069210, false, false⟩, true) := rfl
theorem r0 : ruleV smallC 0 = (⟨⟨#[]⟩, 0, 0, 0, false, false⟩, false) := rfl
theorem tree_small : Tree smallC := (chk_tree mayB_of chk_small).1
theorem wf_small : ∀ b ∈ smallC.bs, WfB b := by
  intro b hb
  have e : smallC.bs = [⟨⟨#[117, 115, 101, 114]⟩, ⟨#[]⟩, true, 0, -1, false, ⟨⟨#[]⟩, 0, 0, 0, false, false⟩, []⟩, ⟨⟨#[117, 115, 101, 114]⟩, ⟨#[98, 111, 98]⟩, false, 0, -1, true, ⟨⟨#[]⟩, 2, 10, 4605380978949069210, false, false⟩, []⟩] := rfl
  rw [e] at hb
  rcases List.mem_cons.1 hb with rfl | hb
  · exact ⟨by decide, by decide, by decide, by decide⟩
  · rcases List.mem_cons.1 hb with rfl | hb
    · exact ⟨by decide, by decide, by decide, by decide⟩
    · cases hb
theorem wd_small : ∀ d ∈ smallC.ds, WfD d := by
  intro d hd
  have e : smallC.ds = [⟨⟨#[115, 104, 111, 112]⟩, [0, 1]⟩] := rfl
  rw [e] at hd
  rcases List.mem_cons.1 hd with rfl | hd
  · show (4 : Nat) ≤ maxLen; unfold maxLen; omega
  · cases hd
theorem sz_small : ∀ j : Int, 0 ≤ j → j < smallC.bs.length → (br smallC.bs j).f0.size ≤ 64 ∧ (br smallC.bs j).f1.size ≤ 128 := by
  intro j h0 h1
  have e : (smallC.bs.length : Int) = 2 := rfl
  rcases (show j = 0 ∨ j = 1 by omega) with rfl | rfl
  · exact ⟨by decide, by decide⟩
  · exact ⟨by decide, by decide⟩
theorem nm_small : ∀ d : Int, 0 ≤ d → d < smallC.ds.length → (dd smallC.ds d).f0.size ≤ 64 := by
  intro d h0 h1
  have e : (smallC.ds.length : Int) = 1 := rfl
  obtain rfl : d = 0 := by omega
  decide
theorem noC_bad : chk mayB nameB ⟨[], []⟩ = false := by decide +kernel
theorem cf_nil (w : World) : CfC w ⟨none, 0, none, 0⟩ ⟨[], []⟩ := ⟨Kd.C_nil _ _, Kd.C_nil _ _, Nat.le_refl _, Nat.le_refl _⟩
theorem new_nil (w : World) : Calls Try.prog 8 #[.agg #[.slice none 0 0, .slice none 0 0]] w fun e w' => e = .returned (.tuple #[.pointer none, .int .i64 1]) ∧ Below w.heap.size w w' := new_bad (v := ⟨none, 0, none, 0⟩) (c := ⟨[], []⟩) (cf_nil w) (fun b hb => by cases hb) (fun b hb => by cases hb) noC_bad
theorem match_one {w0 w : World} {t : TrV} (h : TR w0 w t smallC) (dom : ByteArray) (hdom : dom.size ≤ maxLen) {A : Option Addr} {cd : Nat} {x : EN} (hk : kE.C w A [x].length [x]) (hl : [x].length ≤ cd) (hx : x.f0.size ≤ 9000000000000000000) {r : Option Int} (hr : matchV smallC dom [x] = r) :
    Calls Try.prog 10 #[.pointer (some ⟨t.p, 0, none⟩), .string dom, .agg #[.slice A 1 cd]] w fun e w' => e = .returned (outV r) ∧ Below w.heap.size w w' := by
  rw [← hr]
  exact match_any h (by decide) (by decide) dom hdom hk hl (fun y hy => by rw [show y = x by simpa using hy]; exact hx) (by show (1 : Nat) ≤ _; omega)
set_option maxHeartbeats 4000000 in
theorem awake_any (w : World) : Calls Try.prog 6 #[] w fun e w' => e = .returned (.bool true) ∧ Below w.heap.size w w' := by
  go_enter Try.func6, Try.ntmps6
  go_wp2_with fail
  (with_reducible refine (turncocklaw18_small.calls smallC.ds smallC.bs _ rfl).mono ?_); rintro e w1 ⟨v0, v1, rfl, hn0, hn1, hb1⟩
  obtain ⟨A0, c0, rfl, hl0, hc0⟩ := Kd.N_reads hn0
  obtain ⟨B0, d0, rfl, hl1, hc1⟩ := Kd.N_reads hn1
  have HCF := Aside0.mk (show CfC w1 ⟨A0, c0, B0, d0⟩ smallC from ⟨hc0, hc1, hl0, hl1⟩)
  have HNW := Aside0.mk (new_ok HCF.out wf_small wd_small chk_small)
  have HB1 := Aside0.mk hb1
  clear hb1 hn0 hn1 hl0 hl1 hc0 hc1
  unfold CfV.val at HNW
  dsimp only at HNW
  go_wp2_with fail
  (with_reducible refine (HNW.out).mono ?_); rintro e w2 ⟨t, rfl, ht, hb2⟩
  have HT0 := Aside0.mk ht
  have HB2 := Aside0.mk (below_then HB1.out HB1.out.size hb2)
  have HNB := Aside0.mk (new_nil w2)
  clear ht hb2 HNW HCF
  go_wp2_with fail
  (with_reducible refine (HNB.out).mono ?_); rintro e w3 ⟨rfl, hb3⟩
  have HB3 := Aside0.mk (below_then HB2.out HB2.out.size hb3)
  have HT1 := Aside0.mk (HT0.out.below hb3)
  clear hb3 HNB
  go_wp2_with fail
  (with_reducible refine (turncocklaw18_one.calls ⟨#[117, 115, 101, 114]⟩ ⟨#[98, 111, 98]⟩ [⟨⟨#[117, 115, 101, 114]⟩, ⟨#[98, 111, 98]⟩⟩] _ rfl).mono ?_); rintro e w1a ⟨v1, rfl, hr1, hb1⟩
  obtain ⟨A1, c1, rfl⟩ := Kd.R_slice hr1
  have HRd1 := Aside0.mk (Kd.R_reads' hr1)
  have HB1 := Aside0.mk (below_then HB3.out HB3.out.size hb1)
  have HT2 := Aside0.mk (HT1.out.below hb1)
  clear hb1 hr1
  go_wp2_with fail
  (with_reducible refine (match_one HT2.out ⟨#[115, 104, 111, 112]⟩ (by decide) HRd1.out.2.2 HRd1.out.2.1 (by decide) m1).mono ?_); rintro e w1b ⟨rfl, hb1⟩
  simp only [outV]
  have HBB1 := Aside0.mk (below_then HB1.out HB1.out.size hb1)
  have HT3 := Aside0.mk (HT2.out.below hb1)
  clear hb1
  go_wp2_with fail
  (with_reducible refine (turncocklaw18_one.calls ⟨#[117, 115, 101, 114]⟩ ⟨#[97, 108]⟩ [⟨⟨#[117, 115, 101, 114]⟩, ⟨#[97, 108]⟩⟩] _ rfl).mono ?_); rintro e w2a ⟨v2, rfl, hr2, hb2⟩
  obtain ⟨A2, c2, rfl⟩ := Kd.R_slice hr2
  have HRd2 := Aside0.mk (Kd.R_reads' hr2)
  have HB2 := Aside0.mk (below_then HBB1.out HBB1.out.size hb2)
  have HT4 := Aside0.mk (HT3.out.below hb2)
  clear hb2 hr2
  go_wp2_with fail
  (with_reducible refine (match_one HT4.out ⟨#[115, 104, 111, 112]⟩ (by decide) HRd2.out.2.2 HRd2.out.2.1 (by decide) m2).mono ?_); rintro e w2b ⟨rfl, hb2⟩
  simp only [outV]
  have HBB2 := Aside0.mk (below_then HB2.out HB2.out.size hb2)
  have HT5 := Aside0.mk (HT4.out.below hb2)
  clear hb2
  go_wp2_with fail
  (with_reducible refine (turncocklaw18_one.calls ⟨#[117, 115, 101, 114]⟩ ⟨#[97, 108]⟩ [⟨⟨#[117, 115, 101, 114]⟩, ⟨#[97, 108]⟩⟩] _ rfl).mono ?_); rintro e w3a ⟨v3, rfl, hr3, hb3⟩
  obtain ⟨A3, c3, rfl⟩ := Kd.R_slice hr3
  have HRd3 := Aside0.mk (Kd.R_reads' hr3)
  have HB3 := Aside0.mk (below_then HBB2.out HBB2.out.size hb3)
  have HT6 := Aside0.mk (HT5.out.below hb3)
  clear hb3 hr3
  go_wp2_with fail
  (with_reducible refine (match_one HT6.out ⟨#[112, 97, 121]⟩ (by decide) HRd3.out.2.2 HRd3.out.2.1 (by decide) m3).mono ?_); rintro e w3b ⟨rfl, hb3⟩
  simp only [outV]
  have HBB3 := Aside0.mk (below_then HB3.out HB3.out.size hb3)
  have HT7 := Aside0.mk (HT6.out.below hb3)
  clear hb3
  go_wp2_with fail
  (with_reducible refine (rule_any HT7.out 1).mono ?_); rintro e w8 ⟨rfl, hb8⟩
  rw [r1]
  simp only [ruleVal]
  have hb8a := below_alloc hb8 (.cells #[.string ⟨#[]⟩, .int .i64 2, .int .i64 10, .float .f64 4605380978949069210, .bool false, .bool false] 44)
  have HX8 := Aside0.mk (blk_new w8 (.cells #[.string ⟨#[]⟩, .int .i64 2, .int .i64 10, .float .f64 4605380978949069210, .bool false, .bool false] 44))
  have HB8 := Aside0.mk (below_then HBB3.out HBB3.out.size hb8a)
  have HT8 := Aside0.mk (HT7.out.below hb8a)
  clear hb8 hb8a
  go_wp2_with fail
  (with_reducible refine (rule_any HT8.out 0).mono ?_); rintro e w9 ⟨rfl, hb9⟩
  rw [r0]
  simp only [ruleVal]
  have hb9a := below_alloc hb9 (.cells #[.string ⟨#[]⟩, .int .i64 0, .int .i64 0, .float .f64 0, .bool false, .bool false] 44)
  have HX9 := Aside0.mk ((hb9a.block _ (blk_lt HX8.out)).trans HX8.out)
  have HB9 := Aside0.mk (below_then HB8.out HB8.out.size hb9a)
  have HT9 := Aside0.mk (HT8.out.below hb9a)
  have x2 : (w9.alloc (.cells #[.string ⟨#[]⟩, .int .i64 0, .int .i64 0, .float .f64 0, .bool false, .bool false] 44)).cell? ⟨w8.heap.size, 2, none⟩ = some (.int .i64 10) := (blk_cell HX9.out 2).trans rfl
  clear hb9 hb9a
  go_wp2_with fail
  (with_reducible refine (path_any HT9.out tree_small (by decide) sz_small nm_small 1 (by omega) (by omega)).mono ?_); rintro e w1p ⟨rfl, hb1p⟩
  rw [p1]
  have HBP1 := Aside0.mk (below_then HB9.out HB9.out.size hb1p)
  have HT10 := Aside0.mk (HT9.out.below hb1p)
  clear hb1p x2
  go_wp2_with fail
  (with_reducible refine (path_any HT10.out tree_small (by decide) sz_small nm_small 0 (by omega) (by omega)).mono ?_); rintro e w2p ⟨rfl, hb2p⟩
  rw [p0]
  have HBP2 := Aside0.mk (below_then HBP1.out HBP1.out.size hb2p)
  have HT11 := Aside0.mk (HT10.out.below hb2p)
  clear hb2p 
  go_wp2_with fail
  (with_reducible refine (path_any HT11.out tree_small (by decide) sz_small nm_small 2 (by omega) (by omega)).mono ?_); rintro e w3p ⟨rfl, hb3p⟩
  rw [p2]
  have HBP3 := Aside0.mk (below_then HBP2.out HBP2.out.size hb3p)
  have HT12 := Aside0.mk (HT11.out.below hb3p)
  clear hb3p 
  go_wp2_with fail
  (with_reducible refine (size_any HT12.out).mono ?_); rintro e w10 ⟨rfl, rfl⟩
  go_wp2_with fail
  (with_reducible refine (size_nil _).mono ?_); rintro e w11 ⟨rfl, rfl⟩
  go_wp2_with fail
  (with_reducible refine (path_nil 0 _).mono ?_); rintro e w12 ⟨rfl, hb12⟩
  have HB12 := Aside0.mk (below_then HBP3.out HBP3.out.size hb12)
  clear hb12
  go_wp2
  go_ret
  exact ⟨rfl, HB12.out⟩
end Go.Proofs.Ytipbigdpannlcaa.Tr
