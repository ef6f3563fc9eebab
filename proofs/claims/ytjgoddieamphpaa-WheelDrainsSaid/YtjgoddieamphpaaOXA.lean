/- A part of the proof. -/
import Derived.Test.YtjgoddieamphpaaOWJ
import Derived.Test.YtjgoddieamphpaaPWheelActsx0
import Derived.Test.YtjgoddieamphpaaPWheelActsx1
import Derived.Test.YtjgoddieamphpaaPWheelActsx2
namespace Go.Proofs.Ytjgoddieamphpaa.Wh
open Go.RowKit Go.Sort Go.Proofs.YtjgoddieamphpaaW.PrintWords Go.Proofs.YtjgoddieamphpaaW.PrintLast Heap Go.Proofs.Ytjgoddieamphpaa.Obj Go.Proofs.Ytjgoddieamphpaa.PWheelActs
set_option maxRecDepth 100000
set_option linter.unusedVariables false
theorem bytes_beq_true (a : ByteArray) : (a.toList == a.toList) = true := by simp
theorem bytes_ne {a b : ByteArray} (h : a ≠ b) : a.toList ≠ b.toList := by
  intro e; apply h
  have e1 : a.toList = a.data.toList := by exact ByteArray.toList_eq a
  have e2 : b.toList = b.data.toList := by exact ByteArray.toList_eq b
  rw [e1, e2] at e
  cases a; cases b; simp at e; simp [e]
/-- where a key stands -/
def idx : List S98 → ByteArray → Option Nat
  | [], _ => none
  | c :: t, k => if c.f0 = k then some 0 else (idx t k).map (· + 1)
def fnd (L : List S98) (k : ByteArray) : Int := match idx L k with | some i => (i : Int) | none => -1
theorem idx_some : ∀ {L : List S98} {k : ByteArray} {i : Nat}, idx L k = some i → i < L.length ∧ (L.getD i z98).f0 = k
  | [], _, _, h => by cases h
  | c :: t, k, i, h => by
    unfold idx at h
    split at h
    · obtain rfl := Option.some.inj h
      exact ⟨by simp, by simpa using ‹_›⟩
    · obtain ⟨j, hj, rfl⟩ := Option.map_eq_some_iff.1 h
      obtain ⟨h1, h2⟩ := idx_some hj
      exact ⟨by simp; omega, by simpa using h2⟩
theorem idx_none : ∀ {L : List S98} {k : ByteArray}, idx L k = none → ∀ c ∈ L, c.f0 ≠ k
  | [], _, _ => by simp
  | c :: t, k, h => by
    unfold idx at h
    split at h
    · cases h
    · rename_i hne
      intro d hd
      rcases List.mem_cons.1 hd with rfl | hd
      · exact hne
      · exact idx_none (Option.map_eq_none_iff.1 h) d hd
theorem bytes_eq_iff (a b : ByteArray) : a.toList = b.toList ↔ a = b := by
  constructor
  · intro e
    apply Classical.byContradiction
    intro h; exact bytes_ne h e
  · rintro rfl; rfl
theorem find_l0 (L : List S98) (k : ByteArray) (hN : L.length ≤ 1000000) : ∀ (n i K : Nat), i + n = L.length → n < K → turncockref20_find.l0 K L k (i : Int) = some (match idx (L.drop i) k with | some j => ((i + j : Nat) : Int) | none => -1) := by
  intro n
  induction n with
  | zero =>
    intro i K hi hK
    obtain ⟨K, rfl⟩ : ∃ m, K = m + 1 := ⟨K - 1, by omega⟩
    simp only [turncockref20_find.l0]
    rw [if_neg (by omega), List.drop_eq_nil_of_le (by omega)]
    rfl
  | succ n ih =>
    intro i K hi hK
    obtain ⟨K, rfl⟩ : ∃ m, K = m + 1 := ⟨K - 1, by omega⟩
    have hlt : i < L.length := by omega
    have w1 : wrap64 ((i : Int) + 1) = ((i + 1 : Nat) : Int) := by unfold wrap64; omega
    have hrd : rd_T98 L (i : Int) = L[i] := by
      unfold rd_T98
      rw [Int.toNat_natCast, List.getD_eq_getElem?_getD, List.getElem?_eq_getElem hlt]; rfl
    simp only [turncockref20_find.l0]
    rw [if_pos (by omega), if_pos (by omega), hrd, w1, List.drop_eq_getElem_cons hlt]
    by_cases h : L[i].f0 = k
    · rw [if_pos ((bytes_eq_iff _ _).2 h), show idx (L[i] :: L.drop (i + 1)) k = some 0 from if_pos h]; rfl
    · rw [if_neg (fun e => h ((bytes_eq_iff _ _).1 e)), ih (i + 1) K (by omega) (by omega), show idx (L[i] :: L.drop (i + 1)) k = (idx (L.drop (i + 1)) k).map (· + 1) from if_neg h]
      cases idx (L.drop (i + 1)) k with
      | none => rfl
      | some j =>
        show some (((i + 1 + j : Nat)) : Int) = some ((i + (j + 1) : Nat) : Int)
        rw [show i + 1 + j = i + (j + 1) by omega]
theorem find_f (L : List S98) (k : ByteArray) (hN : L.length ≤ 1000000) : turncockref20_find.f (L.length + 1) L k = some (fnd L k) := by
  have := find_l0 L k hN L.length 0 (L.length + 1) (by omega) (by omega)
  unfold turncockref20_find.f fnd
  have e : ((0 : Nat) : Int) = 0 := rfl
  rw [e, List.drop_zero] at this
  rw [this]
  cases idx L k with
  | none => rfl
  | some j => simp
/-- a row without one place -/
def dropAt (L : List S98) (i : Nat) : List S98 := L.take i ++ L.drop (i + 1)
theorem drop_f (L : List S98) (i : Nat) (hN : L.length ≤ 1000000) (hi : i < L.length) : turncockref20_drop.f L (i : Int) = some (dropAt L i) := by
  unfold turncockref20_drop.f dropAt
  have w1 : wrap64 ((i : Int) + 1) = ((i + 1 : Nat) : Int) := by unfold wrap64; omega
  simp only [Option.bind_some, w1, Int.toNat_natCast]
  have l1 : (L.take i).length ≤ L.length := by rw [List.length_take]; omega
  have l2 : (L.drop (i + 1)).length ≤ L.length := by rw [List.length_drop]; omega
  rw [if_pos (by omega), if_pos (by omega), if_pos (by simp; omega), if_pos (by omega), if_pos (by omega), if_pos (by simp; omega)]
  simp
theorem find_any (L : List S98) (k : ByteArray) (hN : L.length ≤ 1000000) (A : Option Addr) (c : Nat) (w : World) (hr : Kd.C k98 w A L.length L) (hc : L.length ≤ c) :
    Calls Try.prog 65 #[.slice A L.length c, .string k] w fun e w' => e = .returned (.int .i64 (fnd L k)) ∧ ∃ n, w' = w.drewN n := by
  refine (turncockref20_find.calls (L.length + 1) A c L k (fnd L k) w hr hc (find_f L k hN)).mono ?_
  rintro e w' ⟨he, ⟨n, hn⟩⟩
  exact ⟨he, n, hn⟩
def getU (L : List S98) (k : ByteArray) : Int := match idx L k with | some i => (L.getD i z98).f2 | none => 0
def hasB (L : List S98) (k : ByteArray) : Bool := (idx L k).isSome
def delL (L : List S98) (k : ByteArray) : List S98 := match idx L k with | some i => dropAt L i | none => L
def putW (L : List S98) (k : ByteArray) (t : Int) : List S98 := delL L k ++ [⟨k, 0, t⟩]
theorem dropAt_len (L : List S98) (i : Nat) (hi : i < L.length) : (dropAt L i).length + 1 = L.length := by
  unfold dropAt; rw [List.length_append, List.length_take, List.length_drop]; omega
theorem delL_len (L : List S98) (k : ByteArray) : (delL L k).length ≤ L.length := by
  unfold delL
  split
  · rename_i i hi
    have := dropAt_len L i (idx_some hi).1; omega
  · exact Nat.le_refl _
theorem drop_any (L : List S98) (i : Nat) (hN : L.length ≤ 1000000) (hi : i < L.length) (A : Option Addr) (c : Nat) (w : World) (hr : Kd.C k98 w A L.length L) (hc : L.length ≤ c) :
    Calls Try.prog 72 #[.slice A L.length c, .int .i64 (i : Int)] w fun e w' => ∃ v, e = .returned v ∧ Kd.R k98 98 w' w.heap.size (fun _ => True) v (dropAt L i) ∧ Below w.heap.size w w' :=
  turncockref20_drop.calls A c L (i : Int) (dropAt L i) w hr hc (drop_f L i hN hi)
theorem k98_ty : ∀ q, q ∈ 98 :: k98.E → q ≠ 51 := by
  intro q hq
  have : q = 98 := by simpa [k98, Kd.iso, Kd.pair, Kd.string, Kd.int, Kd.scalar] using hq
  omega
/-- The document's wheel in memory. -/
structure RW (w : World) (m : Nat) (L : List S98) (v : Value) : Prop where
  hd : w.heap[m]? = some (.cells #[v] 51 (0, 0))
  row : Kd.R k98 98 w 0 (fun _ => True) v L
  few : L.length ≤ 10000
theorem RW.c0 {w : World} {m : Nat} {L : List S98} {v : Value} (h : RW w m L v) : w.cell? ⟨m, 0, none⟩ = some v := (blk_cell h.hd 0).trans rfl
theorem RW.drewN {w : World} {m : Nat} {L : List S98} {v : Value} (h : RW w m L v) (n : Nat) : RW (w.drewN n) m L v := ⟨h.hd, Kd.R_move h.row (fun _ _ => rfl), h.few⟩
theorem RW.frm {w w1 : World} {m : Nat} {L : List S98} {v : Value} (h : RW w m L v) {F : Nat → Prop} (k : Frm F w w1) (hF : ∀ b cs t, F b → w.heap[b]? = some (.cells cs t (0, 0)) → t ≠ 51 ∧ t ≠ 98) : RW w1 m L v := by
  refine ⟨k.blk h.hd ?_, Kd.R_mono (Kd.R_step (Kd.R_bound h.row) ?_) (fun _ _ => trivial), h.few⟩
  · intro hf
    exact (hF m _ _ hf h.hd).1 rfl
  · rintro b ⟨_, _, _, q, hq, cells, hc⟩ hlt
    refine k.block b hlt fun hf => ?_
    have : q = 98 := by simpa [k98, Kd.iso, Kd.pair, Kd.string, Kd.int, Kd.scalar] using hq
    exact (hF b _ _ hf hc).2 this
theorem RW.lay {w w1 : World} {m : Nat} {L L' : List S98} {v v' : Value} {base : Nat} (h : RW w m L v) (hb : Below w.heap.size w w1) (hr : Kd.R k98 98 w1 base (fun _ => True) v' L') (hl : L'.length ≤ 10000) : RW (w1.setCell ⟨m, 0, none⟩ v') m L' v' :=
  ⟨blk_put (blk_below h.hd hb) 0 v' rfl, Kd.R_lower (Kd.R_set hr (blk_below h.hd hb) k98_ty 0 v') (Nat.zero_le _), hl⟩
theorem frm_lay {w w1 : World} {m : Nat} (h : Frm (fun b => b = m) w w1) (v : Value) : Frm (fun b => b = m) w (w1.setCell ⟨m, 0, none⟩ v) := h.setCell (.inl rfl) _
end Go.Proofs.Ytjgoddieamphpaa.Wh
