/- The document's table: find, Get. -/
import Derived.Test.YtjgoddieamphpaaOTJ
import Derived.Test.YtjgoddieamphpaaPProbeActsx1
import Derived.Test.YtjgoddieamphpaaPProbeActsx2
namespace Go.Proofs.Ytjgoddieamphpaa.Obj
open Go.RowKit Go.Proofs.YtjgoddieamphpaaW.PrintWords Go.Proofs.YtjgoddieamphpaaW.PrintLast Probe Go.Proofs.Ytjgoddieamphpaa.PProbeActs
set_option maxRecDepth 100000
set_option linter.unusedVariables false
/-! The document's table: a row of keys and numbers. -/
def pr (c : S98) : Ent Int := (c.f0, c.f1)
/-- where a key stands -/
def idx : List S98 → ByteArray → Option Nat
  | [], _ => none
  | c :: t, k => if c.f0 = k then some 0 else (idx t k).map (· + 1)
def fnd (L : List S98) (k : ByteArray) : Int := match idx L k with | some i => (i : Int) | none => -1
theorem idx_some : ∀ {L : List S98} {k : ByteArray} {i : Nat}, idx L k = some i → i < L.length ∧ (L.getD i z98).f0 = k
  | [], _, _, h => by cases h
  | c :: t, k, i, h => by
    unfold idx at h
    split at h
    · obtain rfl := Option.some.inj h
      exact ⟨by simp, by simpa using ‹_›⟩
    · obtain ⟨j, hj, rfl⟩ := Option.map_eq_some_iff.1 h
      obtain ⟨h1, h2⟩ := idx_some hj
      exact ⟨by simp; omega, by simpa using h2⟩
theorem idx_none : ∀ {L : List S98} {k : ByteArray}, idx L k = none → ∀ c ∈ L, c.f0 ≠ k
  | [], _, _ => by simp
  | c :: t, k, h => by
    unfold idx at h
    split at h
    · cases h
    · rename_i hne
      intro d hd
      rcases List.mem_cons.1 hd with rfl | hd
      · exact hne
      · exact idx_none (Option.map_eq_none_iff.1 h) d hd
theorem bytes_eq_iff (a b : ByteArray) : a.toList = b.toList ↔ a = b := by
  constructor
  · intro e
    apply Classical.byContradiction
    intro h; exact bytes_ne h e
  · rintro rfl; rfl
theorem find_l0 (L : List S98) (k : ByteArray) (hN : L.length ≤ 1000000) : ∀ (n i K : Nat), i + n = L.length → n < K → turncockref20_find.l0 K L k (i : Int) = some (match idx (L.drop i) k with | some j => ((i + j : Nat) : Int) | none => -1) := by
  intro n
  induction n with
  | zero =>
    intro i K hi hK
    obtain ⟨K, rfl⟩ : ∃ m, K = m + 1 := ⟨K - 1, by omega⟩
    simp only [turncockref20_find.l0]
    rw [if_neg (by omega), List.drop_eq_nil_of_le (by omega)]
    rfl
  | succ n ih =>
    intro i K hi hK
    obtain ⟨K, rfl⟩ : ∃ m, K = m + 1 := ⟨K - 1, by omega⟩
    have hlt : i < L.length := by omega
    have w1 : wrap64 ((i : Int) + 1) = ((i + 1 : Nat) : Int) := by unfold wrap64; omega
    have hrd : rd_T98 L (i : Int) = L[i] := by
      unfold rd_T98
      rw [Int.toNat_natCast, List.getD_eq_getElem?_getD, List.getElem?_eq_getElem hlt]; rfl
    simp only [turncockref20_find.l0]
    rw [if_pos (by omega), if_pos (by omega), hrd, w1, List.drop_eq_getElem_cons hlt]
    by_cases h : L[i].f0 = k
    · rw [if_pos ((bytes_eq_iff _ _).2 h), show idx (L[i] :: L.drop (i + 1)) k = some 0 from if_pos h]; rfl
    · rw [if_neg (fun e => h ((bytes_eq_iff _ _).1 e)), ih (i + 1) K (by omega) (by omega), show idx (L[i] :: L.drop (i + 1)) k = (idx (L.drop (i + 1)) k).map (· + 1) from if_neg h]
      cases idx (L.drop (i + 1)) k with
      | none => rfl
      | some j =>
        show some (((i + 1 + j : Nat)) : Int) = some ((i + (j + 1) : Nat) : Int)
        rw [show i + 1 + j = i + (j + 1) by omega]
theorem find_f (L : List S98) (k : ByteArray) (hN : L.length ≤ 1000000) : turncockref20_find.f (L.length + 1) L k = some (fnd L k) := by
  have := find_l0 L k hN L.length 0 (L.length + 1) (by omega) (by omega)
  unfold turncockref20_find.f fnd
  have e : ((0 : Nat) : Int) = 0 := rfl
  rw [e, List.drop_zero] at this
  rw [this]
  cases idx L k with
  | none => rfl
  | some j => simp
/-- a row without one place -/
def dropAt (L : List S98) (i : Nat) : List S98 := L.take i ++ L.drop (i + 1)
theorem drop_f (L : List S98) (i : Nat) (hN : L.length ≤ 1000000) (hi : i < L.length) : turncockref20_drop.f L (i : Int) = some (dropAt L i) := by
  unfold turncockref20_drop.f dropAt
  have w1 : wrap64 ((i : Int) + 1) = ((i + 1 : Nat) : Int) := by unfold wrap64; omega
  simp only [Option.bind_some, w1, Int.toNat_natCast]
  have l1 : (L.take i).length ≤ L.length := by rw [List.length_take]; omega
  have l2 : (L.drop (i + 1)).length ≤ L.length := by rw [List.length_drop]; omega
  rw [if_pos (by omega), if_pos (by omega), if_pos (by simp; omega), if_pos (by omega), if_pos (by omega), if_pos (by simp; omega)]
  simp
theorem find_any (L : List S98) (k : ByteArray) (hN : L.length ≤ 1000000) (A : Option Addr) (c : Nat) (w : World) (hr : Kd.C k98 w A L.length L) (hc : L.length ≤ c) :
    Calls Try.prog 65 #[.slice A L.length c, .string k] w fun e w' => e = .returned (.int .i64 (fnd L k)) ∧ ∃ n, w' = w.drewN n := by
  refine (turncockref20_find.calls (L.length + 1) A c L k (fnd L k) w hr hc (find_f L k hN)).mono ?_
  rintro e w' ⟨he, ⟨n, hn⟩⟩
  exact ⟨he, n, hn⟩
/-- The document's table in memory. -/
structure RM (w : World) (m most : Nat) (L : List S98) (v : Value) : Prop where
  hd : w.heap[m]? = some (.cells #[.int .i64 most, v] 31 (0, 0))
  row : Kd.R k98 98 w 0 (fun _ => True) v L
  few : L.length ≤ 10000
theorem RM.c0 {w : World} {m most : Nat} {L : List S98} {v : Value} (h : RM w m most L v) : w.cell? ⟨m, 0, none⟩ = some (.int .i64 most) := (blk_cell h.hd 0).trans rfl
theorem RM.c1 {w : World} {m most : Nat} {L : List S98} {v : Value} (h : RM w m most L v) : w.cell? ⟨m, 1, none⟩ = some v := (blk_cell h.hd 1).trans rfl
theorem RM.drewN {w : World} {m most : Nat} {L : List S98} {v : Value} (h : RM w m most L v) (n : Nat) : RM (w.drewN n) m most L v := ⟨h.hd, Kd.R_move h.row (fun _ _ => rfl), h.few⟩
/-- Writes to blocks of other types leave it alone. -/
theorem RM.frm {w w1 : World} {m most : Nat} {L : List S98} {v : Value} (h : RM w m most L v) {F : Nat → Prop} (k : Frm F w w1) (hF : ∀ b, F b → b < w.heap.size → ∃ cs t, w.heap[b]? = some (.cells cs t (0, 0)) ∧ t ≠ 31 ∧ t ≠ 98) : RM w1 m most L v := by
  refine ⟨k.blk h.hd ?_, Kd.R_mono (Kd.R_step (Kd.R_bound h.row) ?_) (fun _ _ => trivial), h.few⟩
  · intro hf
    obtain ⟨cs, t, hb, h1, _⟩ := hF m hf (blk_lt h.hd)
    rw [h.hd] at hb
    injection hb with hb; injection hb with _ hb _
    exact h1 hb.symm
  · rintro b ⟨_, _, _, q, hq, cells, hc⟩ hlt
    refine k.block b hlt fun hf => ?_
    obtain ⟨cs, t, hb, _, h2⟩ := hF b hf hlt
    rw [hc] at hb
    injection hb with hb; injection hb with _ hb _
    have : q = 98 := by simpa [k98, Kd.iso, Kd.pair, Kd.string, Kd.int, Kd.scalar] using hq
    exact h2 (hb ▸ this)
def getV (L : List S98) (k : ByteArray) : Int := match idx L k with | some i => (L.getD i z98).f1 | none => 0
def hasB (L : List S98) (k : ByteArray) : Bool := (idx L k).isSome
theorem rget_any {w : World} {m most : Nat} {L : List S98} {v : Value} (h : RM w m most L v) (k : ByteArray) :
    Calls Try.prog 18 #[.pointer (some ⟨m, 0, none⟩), .string k] w fun e w' => e = .returned (.tuple #[.int .i64 (getV L k), .bool (hasB L k)]) ∧ ∃ n, w' = w.drewN n := by
  obtain ⟨A, c, rfl, hl, hr⟩ := Kd.R_reads h.row
  have hc1 := h.c1
  have hN := Lib.hid (show L.length ≤ 1000000 by have := h.few; omega)
  have hr := Aside0.mk hr
  have hl := Lib.hid hl
  cases hi : idx L k with
  | none =>
    have e1 := Lib.hid (show fnd L k = -1 by unfold fnd; rw [hi])
    have e2 := Lib.hid (show getV L k = 0 by unfold getV; rw [hi])
    have e3 := Lib.hid (show hasB L k = false by unfold hasB; rw [hi]; rfl)
    clear hi
    go_enter Try.func18, Try.ntmps18
    go_wp2_with fail
    (with_reducible refine (find_any L k hN.out A c _ hr.out hl.out).mono ?_); rintro e w' ⟨rfl, n, rfl⟩
    rw [e1.out]
    go_wp2
    go_ret2
    exact ⟨by rw [e2.out, e3.out]; rfl, n, rfl⟩
  | some i =>
    have e1 := Lib.hid (show fnd L k = i by unfold fnd; rw [hi])
    have e2 := Lib.hid (show getV L k = (rd_T98 L (i : Int)).f1 by unfold getV rd_T98; rw [hi, Int.toNat_natCast])
    have e3 := Lib.hid (show hasB L k = true by unfold hasB; rw [hi]; rfl)
    obtain ⟨hlt, _⟩ := idx_some hi
    obtain ⟨ad, rfl, q0, q1, q2⟩ := at_T98 hr.out (i : Int) (by omega) (by omega)
    have g1 : decide ((i : Int) < 0) = false := decide_eq_false (by omega)
    rw [Int.toNat_natCast] at q0 q1 q2
    clear hi
    go_enter Try.func18, Try.ntmps18
    go_wp2_with fail
    (with_reducible refine (find_any L k hN.out _ c _ hr.out hl.out).mono ?_); rintro e w' ⟨rfl, n, rfl⟩
    rw [e1.out]
    go_wp2
    go_ret2
    exact ⟨by rw [e2.out, e3.out]; rfl, n, rfl⟩
end Go.Proofs.Ytjgoddieamphpaa.Obj
