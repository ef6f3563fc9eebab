/- What the law TrieFits uses, thinned: printed by shake2.py. -/
import Derived.Test.YtipbigdpannlcaaTTrieFitsOTA
import Derived.Test.YtipbigdpannlcaaTTrieFitsPTrieFitsx13
import Derived.Deep.QuietTactic
import Derived.BigQuiet
import Derived.StillTailTactics
namespace Go.Proofs.Ytipbigdpannlcaa.Tr
open Go.RowKit Go.Proofs.YtipbigdpannlcaaW.PrintWords Go.Proofs.YtipbigdpannlcaaW.PrintLast Go.Proofs.YtipbigdpannlcaaW.PrintMore Go.Proofs.Ytipbigdpannlcaa.PTrieFits
set_option maxRecDepth 100000
set_option linter.unusedVariables false
def cellsB (b : BR) (A : Option Addr) (c : Nat) : Array Value := #[.string b.f0, .string b.f1, .bool b.f2, .int .i64 b.f3, .int .i64 b.f4, .bool b.f5, .string b.f6.f0, .int .i64 b.f6.f1, .int .i64 b.f6.f2, .float .f64 b.f6.f3, .bool b.f6.f4, .bool b.f6.f5, .slice A b.f7.length c]
theorem twin_f (a b : BR) : config_twin.f a.f0 a.f1 a.f2 a.f3 a.f4 a.f5 a.f6.f0 a.f6.f1 a.f6.f2 a.f6.f3 a.f6.f4 a.f6.f5 a.f7 b.f0 b.f1 b.f2 b.f3 b.f4 b.f5 b.f6.f0 b.f6.f1 b.f6.f2 b.f6.f3 b.f6.f4 b.f6.f5 b.f7 = some (twinB a b) := by
  unfold config_twin.f twinB
  by_cases h0 : a.f0.toList = b.f0.toList
  · rw [if_pos h0, decide_eq_true h0]
    by_cases h1 : a.f1.toList = b.f1.toList
    · rw [if_pos h1, decide_eq_true h1]; rfl
    · rw [if_neg h1, decide_eq_false h1]; rfl
  · rw [if_neg h0, decide_eq_false h0]; rfl
structure CapC (w : World) (g x : Nat) (v : CfV) (c : Cfg) (b : BR) (A : Option Addr) (d : Nat) : Prop where
  hg : w.heap[g]? = some (.cells #[.slice v.A c.ds.length v.c, .slice v.B c.bs.length v.d] 27 (0, 0))
  hx : w.heap[x]? = some (.cells (cellsB b A d) 46 (0, 0))
  cf : CfC w v c
  kc : kI.C w A b.f7.length b.f7
  kl : b.f7.length ≤ d
theorem CapC.below {w w1 : World} {g x : Nat} {v : CfV} {c : Cfg} {b : BR} {A : Option Addr} {d : Nat} (h : CapC w g x v c b A d) (k : Below w.heap.size w w1) : CapC w1 g x v c b A d :=
  ⟨(k.block g (blk_lt h.hg)).trans h.hg, (k.block x (blk_lt h.hx)).trans h.hx, h.cf.below k, Kd.C_below h.kc k, h.kl⟩
theorem cellsB_at {w : World} {x T : Nat} {b : BR} {A : Option Addr} {d : Nat} (h : w.heap[x]? = some (.cells (cellsB b A d) T (0, 0))) :
    w.cell? ⟨x, 0, none⟩ = some (.string b.f0) ∧ w.cell? ⟨x, 1, none⟩ = some (.string b.f1) ∧ w.cell? ⟨x, 2, none⟩ = some (.bool b.f2) ∧ w.cell? ⟨x, 3, none⟩ = some (.int .i64 b.f3) ∧ w.cell? ⟨x, 4, none⟩ = some (.int .i64 b.f4) ∧ w.cell? ⟨x, 5, none⟩ = some (.bool b.f5) ∧ w.cell? ⟨x, 6, none⟩ = some (.string b.f6.f0) ∧ w.cell? ⟨x, 7, none⟩ = some (.int .i64 b.f6.f1) ∧ w.cell? ⟨x, 8, none⟩ = some (.int .i64 b.f6.f2) ∧ w.cell? ⟨x, 9, none⟩ = some (.float .f64 b.f6.f3) ∧ w.cell? ⟨x, 10, none⟩ = some (.bool b.f6.f4) ∧ w.cell? ⟨x, 11, none⟩ = some (.bool b.f6.f5) ∧ w.cell? ⟨x, 12, none⟩ = some (.slice A b.f7.length d) :=
  ⟨(blk_cell h 0).trans rfl, (blk_cell h 1).trans rfl, (blk_cell h 2).trans rfl, (blk_cell h 3).trans rfl, (blk_cell h 4).trans rfl, (blk_cell h 5).trans rfl, (blk_cell h 6).trans rfl, (blk_cell h 7).trans rfl, (blk_cell h 8).trans rfl, (blk_cell h 9).trans rfl, (blk_cell h 10).trans rfl, (blk_cell h 11).trans rfl, (blk_cell h 12).trans rfl⟩
set_option maxHeartbeats 1000000 in
theorem walk1_any {w : World} {g x : Nat} {v : CfV} {c : Cfg} {b : BR} {A : Option Addr} {d : Nat} (h : CapC w g x v c b A d) (j : Int) (h0 : 0 ≤ j) (h1 : j < c.bs.length) :
    Calls Try.prog 45 #[.int .i64 j, .pointer (some ⟨g, 0, none⟩), .pointer (some ⟨x, 0, none⟩)] w fun e w' => e = .returned (.bool (twinB (br c.bs j) b)) ∧ Below w.heap.size w w' := by
  obtain ⟨ad, A12, c12, e, q0, q1, q2, q3, q4, q5, q6, q7, q8, q9, q10, q11, q12, l12, g12⟩ := at_T46 h.cf.bs j h0 h1
  have u1 : w.cell? ⟨g, 1, none⟩ = some (.slice v.B c.bs.length v.d) := (blk_cell h.hg 1).trans rfl
  obtain ⟨x0, x1, x2, x3, x4, x5, x6, x7, x8, x9, x10, x11, x12⟩ := cellsB_at h.hx
  have HG := Aside0.mk g12
  have HL := Aside0.mk l12
  have H := Aside0.mk h
  have T := Aside0.mk (twin_f (br c.bs j) b)
  clear h l12 g12
  go_enter Try.func45, Try.ntmps45
  go_wp2
  go_still_tail 6, (by kernel_rfl)
  change wpList _ _ _ _ _ w.drew
  have HB := Aside0.mk (below_drew (Below.refl w.heap.size w))
  generalize w.drew = w2 at HB ⊢
  clear u1 x0 x1 x2 x3 x4 x5 x6 x7 x8 x9 x10 x11 x12 q0 q1 q2 q3 q4 q5 q6 q7 q8 q9 q10 q11 q12
  go_wp2_with fail
  (with_reducible refine (config_twin.calls _ _ _ _ _ _ _ _ _ _ _ _ A12 c12 _ _ _ _ _ _ _ _ _ _ _ _ _ A d _ _ _ (Kd.C_below HG.out HB.out) HL.out (Kd.C_below H.out.kc HB.out) H.out.kl T.out).mono ?_); rintro e w3 ⟨rfl, hb3⟩
  have HB3 := Aside0.mk hb3
  clear hb3
  go_wp2
  go_ret
  exact ⟨rfl, below_then HB.out HB.out.size HB3.out⟩
def IdxR (bs : List BR) (b : BR) (ks : List Int) (e : Ending) : Prop := ∃ n : Int, decide (0 ≤ n) = ks.any (fun j => twinB (br bs j) b) ∧ e = .returned (.int .i64 n)
theorem at_int {w : World} {A : Option Addr} {n : Nat} {xs : List Int} (h : kI.C w A n xs) (i : Int) (h0 : 0 ≤ i) (h1 : i < n) : ∃ ad, A = some ad ∧ w.cell? (ad.add i.toNat) = some (.int .i64 (rdOf 0 xs i)) := (Kd.reads_of_C (d := (0 : Int)) h).at_ i h0 h1
theorem idx_any {w : World} {g x : Nat} {v : CfV} {c : Cfg} {b : BR} {A : Option Addr} {d : Nat} (h : CapC w g x v c b A d) {AK : Option Addr} {ck : Nat} {ks : List Int} (hk : kI.C w AK ks.length ks) (hl : ks.length ≤ ck) (hr : ∀ j ∈ ks, 0 ≤ j ∧ j < c.bs.length) :
    Calls Try.prog 56 #[.slice AK ks.length ck, .func (.func 45) #[] #[.pointer (some ⟨g, 0, none⟩), .pointer (some ⟨x, 0, none⟩)]] w fun e w' => IdxR c.bs b ks e ∧ Below w.heap.size w w' := by
  have H := Aside0.mk h
  have HK := Aside0.mk hk
  have HR := Aside0.mk hr
  have hmx := Kd.C_max hk
  have hb0 : Below w.heap.size w w := Below.refl _ _
  clear h hk hr
  go_enter Try.func56, Try.ntmps56
  go_wp2
  go_loopw [8] (fun i wr => ∃ k : Nat, k ≤ ks.length ∧ i = .int .i64 k ∧ Aside0 (∀ t : Nat, t < k → twinB (br c.bs (ks.getD t 0)) b = false) ∧ Below w.heap.size w wr) (fun i _ => ks.length - (intOf i).toNat)
  case atStart => exact ⟨0, Nat.zero_le _, rfl, ⟨fun t ht => by omega⟩, hb0⟩
  case round =>
    obtain ⟨k, hkl, rfl, HN, hb⟩ := hrel
    have HB := Aside0.mk hb
    clear hb
    by_cases hlt : k < ks.length
    · obtain ⟨ad, rfl, q⟩ := at_int (Kd.C_below HK.out HB.out) (k : Int) (by omega) (by omega)
      rw [Int.toNat_natCast] at q
      have hj := HR.out (ks.getD k 0) (by rw [List.getD_eq_getElem?_getD, List.getElem?_eq_getElem hlt]; exact List.getElem_mem hlt)
      have ej : rdOf 0 ks (k : Int) = ks.getD k 0 := by unfold rdOf; rw [Int.toNat_natCast]
      rw [ej] at q
      have HC := Aside0.mk (walk1_any (H.out.below HB.out) (ks.getD k 0) hj.1 hj.2)
      have d1 : decide (k < ks.length) = true := decide_eq_true hlt
      have HLT := Aside0.mk hlt
      generalize hj0 : ks.getD k 0 = j0 at *
      have HJ0 := Aside0.mk hj0
      have HKL := Aside0.mk hkl
      clear hj ej hj0
      cases ht : twinB (br c.bs j0) b with
      | true =>
        rw [ht] at HC
        have HT := Aside0.mk ht
        clear ht
        go_wp2_with fail
        (with_reducible refine (HC.out).mono ?_); rintro e w3 ⟨rfl, hb3⟩
        have HB3 := Aside0.mk hb3
        clear hb3
        go_wp2
        go_ret
        refine ⟨⟨k, ?_, rfl⟩, below_then HB.out HB.out.size HB3.out⟩
        rw [decide_eq_true (by omega)]
        exact (List.any_eq_true.2 ⟨j0, by rw [← HJ0.out, List.getD_eq_getElem?_getD, List.getElem?_eq_getElem HLT.out]; exact List.getElem_mem _, HT.out⟩).symm
      | false =>
        rw [ht] at HC
        have HT := Aside0.mk ht
        clear ht
        go_wp2_with fail
        (with_reducible refine (HC.out).mono ?_); rintro e w3 ⟨rfl, hb3⟩
        have HB3 := Aside0.mk hb3
        clear hb3
        go_wp2
        go_roundw
        case rel =>
          refine ⟨k + 1, by omega, by go_num, ⟨fun t ht => ?_⟩, below_then HB.out HB.out.size HB3.out⟩
          rcases Nat.lt_or_ge t k with h1 | h1
          · exact HN.out t h1
          · obtain rfl : t = k := by omega
            rw [HJ0.out]; exact HT.out
        case measure => simp [intOf]; omega
    · obtain rfl : k = ks.length := by omega
      go_wp2
      go_ret
      refine ⟨⟨-1, ?_, rfl⟩, HB.out⟩
      rw [decide_eq_false (by omega)]
      symm
      rw [Bool.eq_false_iff]
      intro e
      obtain ⟨j, hj, e⟩ := List.any_eq_true.1 e
      obtain ⟨t, ht, rfl⟩ := List.getElem_of_mem hj
      have := HN.out t ht
      rw [List.getD_eq_getElem?_getD, List.getElem?_eq_getElem ht] at this
      simp only [Option.getD_some] at this
      rw [this] at e; cases e
theorem cont_any {w : World} {g x : Nat} {v : CfV} {c : Cfg} {b : BR} {A : Option Addr} {d : Nat} (h : CapC w g x v c b A d) {AK : Option Addr} {ck : Nat} {ks : List Int} (hk : kI.C w AK ks.length ks) (hl : ks.length ≤ ck) (hr : ∀ j ∈ ks, 0 ≤ j ∧ j < c.bs.length) :
    Calls Try.prog 44 #[.slice AK ks.length ck, .func (.func 45) #[] #[.pointer (some ⟨g, 0, none⟩), .pointer (some ⟨x, 0, none⟩)]] w fun e w' => e = .returned (.bool (ks.any fun j => twinB (br c.bs j) b)) ∧ Below w.heap.size w w' := by
  have HC := Aside0.mk (idx_any h hk hl hr)
  clear h hk hr
  go_enter Try.func44, Try.ntmps44
  go_wp2_with fail
  (with_reducible refine (HC.out).mono ?_); rintro e w3 ⟨⟨n, hn, rfl⟩, hb3⟩
  have HN := Aside0.mk hn
  have HB3 := Aside0.mk hb3
  clear hb3 hn
  go_wp2
  go_ret
  exact ⟨by rw [← HN.out]; rfl, HB3.out⟩
end Go.Proofs.Ytipbigdpannlcaa.Tr
