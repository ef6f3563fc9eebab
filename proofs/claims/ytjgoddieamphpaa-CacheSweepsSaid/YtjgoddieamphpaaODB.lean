/- A cache: part of the proof. -/
import Derived.Test.YtjgoddieamphpaaODA
namespace Go.Proofs.Ytjgoddieamphpaa.Ca
open Go.RowKit Go.Sort Go.Proofs.YtjgoddieamphpaaW.PrintWords Go.Proofs.YtjgoddieamphpaaW.PrintLast Probe Go.Proofs.Ytjgoddieamphpaa.Obj Go.Proofs.Ytjgoddieamphpaa.PProbeActs
open Go.Proofs.Ytjgoddieamphpaa.Wh (KV lessK lessK_irr lessK_tr lessK_ntr IsFirst dropK dropK_perm dropK_cons Dues)
set_option maxRecDepth 100000
set_option linter.unusedVariables false
theorem live_ex {L : List S98} {k : ByteArray} {now : Int} (hn : ((kvC L).map (·.1)).Nodup) (h : liveC L k now = true) : ∃ c ∈ L, c.f0 = k ∧ now < c.f2 := by
  have h1 := h
  unfold liveC at h1
  rw [Bool.and_eq_true] at h1
  have h2 : ∃ c ∈ kvC L, c.1 = k := of_decide_eq_true h1.1
  obtain ⟨c, hc, e⟩ := h2
  obtain ⟨x, hx, rfl⟩ := List.mem_map.1 hc
  have e : x.f0 = k := e
  subst e
  rw [live_mem hn hx now] at h
  exact ⟨x, hx, rfl, of_decide_eq_true h⟩
def cuC (c : S98) : KV := (c.f0, c.f2)
theorem kvC_eq (L : List S98) : kvC L = L.map cuC := rfl
def ku' (L : List S98) (i : Nat) : KV := cuC (L.getD i z98)
theorem ku_mem (L : List S98) (i : Nat) (hi : i < L.length) : ku' L i ∈ kvC L := by
  unfold ku' kvC
  rw [List.getD_eq_getElem?_getD, List.getElem?_eq_getElem hi]
  exact List.mem_map.2 ⟨_, List.getElem_mem hi, rfl⟩
theorem mem_ku (L : List S98) (x : KV) (hx : x ∈ kvC L) : ∃ i, i < L.length ∧ x = ku' L i := by
  obtain ⟨c, hc, rfl⟩ := List.mem_map.1 hx
  obtain ⟨i, hi, rfl⟩ := List.mem_iff_getElem.1 hc
  refine ⟨i, hi, ?_⟩
  unfold ku'
  rw [List.getD_eq_getElem?_getD, List.getElem?_eq_getElem hi]; rfl
theorem before_f (a b : S98) : turncockref20_before.f a.f0 a.f1 a.f2 b.f0 b.f1 b.f2 = some (lessK (cuC a) (cuC b)) := by
  unfold turncockref20_before.f lessK cuC
  by_cases h1 : a.f2 < b.f2
  · rw [if_pos h1, decide_eq_true h1]; rfl
  · rw [if_neg h1, decide_eq_false h1]
    by_cases h2 : a.f2 = b.f2
    · rw [if_pos h2, decide_eq_true h2]; rfl
    · rw [if_neg h2, decide_eq_false h2]; rfl
theorem first_l0 (L : List S98) (hN : L.length ≤ 1000000) : ∀ d i k j, i + d = L.length → d < k → j < i → (∀ q, q < i → lessK (ku' L q) (ku' L j) = false) → ∃ r : Nat, turncockref20_first.l0 k L (j : Int) (i : Int) = some (r : Int) ∧ r < L.length ∧ ∀ q, q < L.length → lessK (ku' L q) (ku' L r) = false
  | 0, i, k, j, hd, hk, hj, hm => by
    obtain ⟨k, rfl⟩ : ∃ m, k = m + 1 := ⟨k - 1, by omega⟩
    simp only [turncockref20_first.l0]
    rw [if_neg (by omega)]
    exact ⟨j, rfl, by omega, fun q hq => hm q (by omega)⟩
  | d + 1, i, k, j, hd, hk, hj, hm => by
    obtain ⟨k, rfl⟩ : ∃ m, k = m + 1 := ⟨k - 1, by omega⟩
    simp only [turncockref20_first.l0]
    have ei : rd_T98 L (i : Int) = L.getD i z98 := by unfold rd_T98; rw [Int.toNat_natCast]
    have ej : rd_T98 L (j : Int) = L.getD j z98 := by unfold rd_T98; rw [Int.toNat_natCast]
    rw [if_pos (by omega), if_neg (by omega), if_pos (by omega), if_pos (by omega), if_pos (by omega), ei, ej, before_f, Option.bind_some, show wrap64 ((i : Int) + 1) = ((i + 1 : Nat) : Int) from by unfold wrap64; omega]
    cases hl : lessK (cuC (L.getD i z98)) (cuC (L.getD j z98)) with
    | true =>
      rw [if_pos rfl]
      refine first_l0 L hN d (i + 1) k i (by omega) (by omega) (by omega) (fun q hq => ?_)
      by_cases e : q = i
      · subst e; exact lessK_irr _
      · have h1 := hm q (by omega)
        have h2 : lessK (ku' L j) (ku' L i) = false := by
          cases h3 : lessK (ku' L j) (ku' L i) with
          | false => rfl
          | true => have := lessK_tr _ _ _ hl h3; rw [show ku' L i = cuC (L.getD i z98) from rfl, lessK_irr] at this; cases this
        exact lessK_ntr _ _ _ h1 h2
    | false =>
      rw [if_neg (by decide)]
      refine first_l0 L hN d (i + 1) k j (by omega) (by omega) (by omega) (fun q hq => ?_)
      by_cases e : q = i
      · subst e; exact hl
      · exact hm q (by omega)
theorem first_some (L : List S98) (hN : L.length ≤ 1000000) (h0 : 0 < L.length) : ∃ r : Nat, turncockref20_first.f (L.length + 1) L = some (r : Int) ∧ r < L.length ∧ IsFirst (kvC L) (ku' L r) := by
  unfold turncockref20_first.f
  simp only [turncockref20_first.l0]
  rw [if_pos (by omega), if_pos (by omega), show wrap64 ((0 : Int) + 1) = ((1 : Nat) : Int) from by unfold wrap64; omega]
  have h00 : ∀ q, q < 1 → lessK (ku' L q) (ku' L 0) = false := fun q hq => by
    have e : q = 0 := by omega
    subst e
    exact lessK_irr _
  obtain ⟨r, h1, h2, h3⟩ := first_l0 L hN (L.length - 1) 1 L.length 0 (by omega) (by omega) (by omega) h00
  exact ⟨r, h1, h2, ku_mem L r h2, fun y hy => by obtain ⟨i, hi, rfl⟩ := mem_ku L y hy; exact h3 i hi⟩
theorem first_none : turncockref20_first.f 1 [] = some (-1) := by
  unfold turncockref20_first.f
  simp [turncockref20_first.l0]
theorem kvC_dropAt (L : List S98) (hn : (L.map (·.f0)).Nodup) (i : Nat) (hi : i < L.length) : (kvC (dropAt L i)).Perm (dropK (kvC L) (L.getD i z98).f0) := by
  have h1 := (perm_at L i hi).map cuC
  have h2 := dropK_perm h1 (L.getD i z98).f0
  have h3 : ((L.getD i z98 :: dropAt L i).map (·.f0)).Nodup := ((perm_at L i hi).map _).nodup_iff.1 hn
  rw [List.map_cons, List.nodup_cons] at h3
  have h4 : dropK ((L.getD i z98 :: dropAt L i).map cuC) (L.getD i z98).f0 = kvC (dropAt L i) := by
    rw [List.map_cons]
    refine dropK_cons (t := (L.getD i z98).f2) (fun c hc e => h3.1 ?_)
    obtain ⟨d, hd, rfl⟩ := List.mem_map.1 hc
    rw [← e]
    exact List.mem_map.2 ⟨d, hd, rfl⟩
  rw [h4] at h2
  exact h2.symm
theorem dropAt_nodup (L : List S98) (hn : (L.map (·.f0)).Nodup) (i : Nat) (hi : i < L.length) : ((dropAt L i).map (·.f0)).Nodup := by
  have h3 : ((L.getD i z98 :: dropAt L i).map (·.f0)).Nodup := ((perm_at L i hi).map _).nodup_iff.1 hn
  rw [List.map_cons, List.nodup_cons] at h3
  exact h3.2

/-! Those that are live. -/
def liveL (L : List S98) (now : Int) : List S98 := L.filter fun c => decide (now < c.f2)
theorem only_l0 (L : List S98) (now : Int) (hN : L.length ≤ 1000000) : ∀ d i k out, i + d = L.length → d < k → out.length ≤ i → turncockref20_only.l0 k L now out (i : Int) = some (out ++ liveL (L.drop i) now)
  | 0, i, k, out, hd, hk, ho => by
    obtain ⟨k, rfl⟩ : ∃ m, k = m + 1 := ⟨k - 1, by omega⟩
    simp only [turncockref20_only.l0]
    rw [if_neg (by omega), List.drop_eq_nil_of_le (by omega)]
    simp [liveL]
  | d + 1, i, k, out, hd, hk, ho => by
    obtain ⟨k, rfl⟩ : ∃ m, k = m + 1 := ⟨k - 1, by omega⟩
    have hlt : i < L.length := by omega
    have hrd : rd_T98 L (i : Int) = L[i] := by unfold rd_T98; rw [Int.toNat_natCast, List.getD_eq_getElem?_getD, List.getElem?_eq_getElem hlt]; rfl
    have w1 : wrap64 ((i : Int) + 1) = ((i + 1 : Nat) : Int) := by unfold wrap64; omega
    simp only [turncockref20_only.l0]
    rw [if_pos (by omega), if_pos (by omega), hrd, w1, List.drop_eq_getElem_cons hlt]
    by_cases h : now < L[i].f2
    · rw [if_pos h, if_pos (by omega), only_l0 L now hN d (i + 1) k _ (by omega) (by omega) (by rw [List.length_append]; simp; omega)]
      unfold liveL
      rw [List.filter_cons, if_pos (by simpa using h), List.append_assoc]; rfl
    · rw [if_neg h, only_l0 L now hN d (i + 1) k out (by omega) (by omega) (by omega)]
      unfold liveL
      rw [List.filter_cons, if_neg (by simpa using h)]
theorem only_f (L : List S98) (now : Int) (hN : L.length ≤ 1000000) : turncockref20_only.f (L.length + 1) L now = some (liveL L now) := by
  have := only_l0 L now hN L.length 0 (L.length + 1) [] (by omega) (by omega) (by simp)
  unfold turncockref20_only.f
  rw [show ((0 : Nat) : Int) = 0 from rfl, List.drop_zero, List.nil_append] at this
  exact this
theorem only_any (L : List S98) (now : Int) (hN : L.length ≤ 1000000) (A : Option Addr) (c : Nat) (w : World) (hr : Kd.C k98 w A L.length L) (hc : L.length ≤ c) :
    Calls Try.prog 82 #[.slice A L.length c, .int .i64 now] w fun e w' => ∃ v, e = .returned v ∧ Kd.R k98 98 w' w.heap.size (fun _ => True) v (liveL L now) ∧ Below w.heap.size w w' :=
  turncockref20_only.calls (L.length + 1) A c L now (liveL L now) w hr hc (only_f L now hN)
theorem same_l0 (l : List S126) (hN : l.length ≤ 1000000) : ∀ d i k, i + d = l.length → d < k → turncockref20_SameCounts.l0 k l l (i : Int) = some true
  | 0, i, k, hd, hk => by
    obtain ⟨k, rfl⟩ : ∃ m, k = m + 1 := ⟨k - 1, by omega⟩
    simp only [turncockref20_SameCounts.l0]
    rw [if_neg (by omega)]
  | d + 1, i, k, hd, hk => by
    obtain ⟨k, rfl⟩ : ∃ m, k = m + 1 := ⟨k - 1, by omega⟩
    simp only [turncockref20_SameCounts.l0]
    rw [if_pos (by omega), if_pos (by omega), if_pos (by omega), if_neg (by simp), show wrap64 ((i : Int) + 1) = ((i + 1 : Nat) : Int) from by unfold wrap64; omega]
    exact same_l0 l hN d (i + 1) k (by omega) (by omega)
theorem same_any (l : List S126) (hN : l.length ≤ 1000000) (A : Option Addr) (c : Nat) (A1 : Option Addr) (c1 : Nat) (w : World) (hr : Kd.C k126 w A l.length l) (hc : l.length ≤ c) (hr1 : Kd.C k126 w A1 l.length l) (hc1 : l.length ≤ c1) :
    Calls Try.prog 58 #[.slice A l.length c, .slice A1 l.length c1] w fun e w' => e = .returned (.bool true) ∧ ∃ n, w' = w.drewN n := by
  refine (turncockref20_SameCounts.calls (l.length + 1) A c l A1 c1 l true w hr hc hr1 hc1 ?_).mono ?_
  · unfold turncockref20_SameCounts.f
    rw [if_pos rfl]
    exact same_l0 l hN l.length 0 (l.length + 1) (by omega) (by omega)
  · rintro e w' ⟨he, ⟨n, hn⟩⟩
    exact ⟨he, n, hn⟩
theorem light_l0 (l : List S85) (hN : l.length ≤ 9223372036854775807) : ∀ d i k, l.length = i + d → 2 * d + 2 ≤ k → ∃ r, turncocklaw23_light.l0 k l (i : Int) = some r ∧ (r = true → l.length ≤ 150 ∧ ∀ q, i ≤ q → q < l.length → (l.getD q z85).f1.size ≤ 100)
  | 0, i, k, hd, hk => by
    obtain ⟨k, rfl⟩ : ∃ m, k = m + 2 := ⟨k - 2, by omega⟩
    simp only [turncocklaw23_light.l0, turncocklaw23_light.j1]
    rw [if_neg (by omega), if_neg (by decide)]
    exact ⟨_, rfl, fun h => ⟨by have := of_decide_eq_true h; omega, fun q h1 h2 => by omega⟩⟩
  | d + 1, i, k, hd, hk => by
    obtain ⟨k, rfl⟩ : ∃ m, k = m + 2 := ⟨k - 2, by omega⟩
    simp only [turncocklaw23_light.l0, turncocklaw23_light.j1]
    rw [if_pos (by omega)]
    by_cases h3 : (i : Int) < 300
    · rw [decide_eq_true h3, if_pos rfl, if_pos (by omega), if_pos (by omega)]
      have e : rd_T85 l (i : Int) = l.getD i z85 := by unfold rd_T85; rw [Int.toNat_natCast]
      rw [e]
      by_cases hs : (((l.getD i z85).f1.size : Nat) : Int) > 100
      · rw [if_pos hs]; exact ⟨_, rfl, fun h => by cases h⟩
      · rw [if_neg hs, show wrap64 ((i : Int) + 1) = ((i + 1 : Nat) : Int) from by unfold wrap64; omega]
        obtain ⟨r, hr, h⟩ := light_l0 l hN d (i + 1) k (by omega) (by omega)
        refine ⟨r, hr, fun ht => ⟨(h ht).1, fun q h1 h2 => ?_⟩⟩
        by_cases hq : q = i
        · subst hq; omega
        · exact (h ht).2 q (by omega) h2
    · rw [decide_eq_false h3, if_neg (by decide)]
      exact ⟨_, rfl, fun h => by have := of_decide_eq_true h; omega⟩
theorem light_f (l : List S85) (hN : l.length ≤ 9223372036854775807) : ∃ r, turncocklaw23_light.f (2 * l.length + 2) l = some r ∧ (r = true → l.length ≤ 150 ∧ ∀ q, q < l.length → (l.getD q z85).f1.size ≤ 100) := by
  obtain ⟨r, hr, h⟩ := light_l0 l hN l.length 0 (2 * l.length + 2) (by omega) (by omega)
  exact ⟨r, hr, fun ht => ⟨(h ht).1, fun q hq => (h ht).2 q (by omega) hq⟩⟩
/-! The document's cache in memory. -/
structure RK (w : World) (m most : Nat) (L : List S98) (v : Value) : Prop where
  hd : w.heap[m]? = some (.cells #[.int .i64 most, v] 83 (0, 0))
  row : Kd.R k98 98 w 0 (fun _ => True) v L
  few : L.length ≤ 10000
theorem k98_ty83 : ∀ q, q ∈ 98 :: k98.E → q ≠ 83 := by
  intro q hq
  have : q = 98 := by simpa [k98, Kd.iso, Kd.pair, Kd.string, Kd.int, Kd.scalar] using hq
  omega
section
variable {w w1 : World} {m most : Nat} {L L' : List S98} {v v' : Value}
theorem RK.c0 (h : RK w m most L v) : w.cell? ⟨m, 0, none⟩ = some (.int .i64 most) := (blk_cell h.hd 0).trans rfl
theorem RK.c1 (h : RK w m most L v) : w.cell? ⟨m, 1, none⟩ = some v := (blk_cell h.hd 1).trans rfl
theorem RK.drewN (h : RK w m most L v) (n : Nat) : RK (w.drewN n) m most L v := ⟨h.hd, Kd.R_move h.row (fun _ _ => rfl), h.few⟩
theorem RK.frm (h : RK w m most L v) {F : Nat → Prop} (k : Frm F w w1) (hF : ∀ b cs t, F b → w.heap[b]? = some (.cells cs t (0, 0)) → t ≠ 83 ∧ t ≠ 98) : RK w1 m most L v := by
  refine ⟨k.blk h.hd ?_, Kd.R_mono (Kd.R_step (Kd.R_bound h.row) ?_) (fun _ _ => trivial), h.few⟩
  · intro hf
    exact (hF m _ _ hf h.hd).1 rfl
  · rintro b ⟨_, _, _, q, hq, cells, hc⟩ hlt
    refine k.block b hlt fun hf => ?_
    have : q = 98 := by simpa [k98, Kd.iso, Kd.pair, Kd.string, Kd.int, Kd.scalar] using hq
    exact (hF b _ _ hf hc).2 this
theorem RK.lay {base : Nat} (h : RK w m most L v) (hb : Below w.heap.size w w1) (hr : Kd.R k98 98 w1 base (fun _ => True) v' L') (hl : L'.length ≤ 10000) : RK (w1.setCell ⟨m, 1, none⟩ v') m most L' v' :=
  ⟨blk_put (blk_below h.hd hb) 1 v' rfl, Kd.R_lower (Kd.R_set hr (blk_below h.hd hb) k98_ty83 1 v') (Nat.zero_le _), hl⟩
end
theorem peek_idx {L : List S98} (hn : (L.map (·.f0)).Nodup) (k : ByteArray) (now : Int) : peekC L k now = match idx L k with | some i => if now < (L.getD i z98).f2 then (L.getD i z98).f1 else 0 | none => 0 := by
  have hn2 : ((kvC L).map (·.1)).Nodup := by unfold kvC; rw [List.map_map]; exact hn
  unfold peekC getV
  cases hi : idx L k with
  | some i =>
    obtain ⟨hl, hk⟩ := idx_some hi
    have hm : L.getD i z98 ∈ L := by rw [List.getD_eq_getElem?_getD, List.getElem?_eq_getElem hl]; exact List.getElem_mem hl
    have := live_mem hn2 hm now
    rw [hk] at this
    rw [this]
    show (if decide (now < (L.getD i z98).f2) = true then (L.getD i z98).f1 else 0) = if now < (L.getD i z98).f2 then (L.getD i z98).f1 else 0
    by_cases h : now < (L.getD i z98).f2
    · rw [decide_eq_true h, if_pos rfl, if_pos h]
    · rw [decide_eq_false h, if_neg (by decide), if_neg h]
  | none => split <;> rfl
theorem live_idx {L : List S98} (hn : (L.map (·.f0)).Nodup) (k : ByteArray) (now : Int) : liveC L k now = match idx L k with | some i => decide (now < (L.getD i z98).f2) | none => false := by
  have hn2 : ((kvC L).map (·.1)).Nodup := by unfold kvC; rw [List.map_map]; exact hn
  cases hi : idx L k with
  | some i =>
    obtain ⟨hl, hk⟩ := idx_some hi
    have hm : L.getD i z98 ∈ L := by rw [List.getD_eq_getElem?_getD, List.getElem?_eq_getElem hl]; exact List.getElem_mem hl
    have := live_mem hn2 hm now
    rw [hk] at this
    exact this
  | none =>
    cases hb : liveC L k now with
    | false => rfl
    | true =>
      obtain ⟨c, hc, e, _⟩ := live_ex hn2 hb
      exact absurd e (idx_none hi c hc)
end Go.Proofs.Ytjgoddieamphpaa.Ca
