/- A cache: part of the proof. -/
import Derived.Test.YtjgoddieamphpaaOCH
namespace Go.Proofs.Ytjgoddieamphpaa.Ca
open Go.RowKit Go.Sort Go.Proofs.YtjgoddieamphpaaW.PrintWords Go.Proofs.YtjgoddieamphpaaW.PrintLast Probe Go.Proofs.Ytjgoddieamphpaa.Obj Go.Proofs.Ytjgoddieamphpaa.PProbeActs
set_option maxRecDepth 100000
set_option linter.unusedVariables false
/-- In round r, behind the keys below m. -/
structure RI (r m : Nat) (L : List S98) : Prop where
  cnt : liveN L (10 * r : Int) = m
  ks : ∀ c ∈ L, c.f2 = (10 * r + 10 : Int) → ∃ j, j < m ∧ c.f0 = kj (j + r)
  ds : ∀ c ∈ L, c.f2 = (10 * r + 10 : Int) ∨ c.f2 ≤ (10 * r : Int)
theorem live_ex {L : List S98} {k : ByteArray} {now : Int} (hn : ((kvC L).map (·.1)).Nodup) (h : liveC L k now = true) : ∃ c ∈ L, c.f0 = k ∧ now < c.f2 := by
  have h1 := h
  unfold liveC at h1
  rw [Bool.and_eq_true] at h1
  have h2 : ∃ c ∈ kvC L, c.1 = k := of_decide_eq_true h1.1
  obtain ⟨c, hc, e⟩ := h2
  obtain ⟨x, hx, rfl⟩ := List.mem_map.1 hc
  have e : x.f0 = k := e
  subst e
  rw [live_mem hn hx now] at h
  exact ⟨x, hx, rfl, of_decide_eq_true h⟩
theorem RI.dead {r m i : Nat} {L : List S98} (h : RI r m L) (hn : ((kvC L).map (·.1)).Nodup) (hi : m ≤ i) : liveC L (kj (i + r)) (10 * r : Int) = false := by
  cases hb : liveC L (kj (i + r)) (10 * r : Int) with
  | false => rfl
  | true =>
    obtain ⟨c, hc, e, hl⟩ := live_ex hn hb
    rcases h.ds c hc with h2 | h2
    · obtain ⟨j, hj, e2⟩ := h.ks c hc h2
      have := kj_inj (e2.symm.trans e)
      omega
    · omega
theorem liveN_wo {X : List S98} {k : ByteArray} {now : Int} (h : ∀ c ∈ X, c.f0 = k → c.f2 ≤ now) : liveN (wo X [k]) now = liveN X now := by
  unfold liveN wo
  rw [List.filter_filter]
  congr 1
  refine List.filter_congr fun c hc => ?_
  rw [nin_one]
  by_cases e : c.f0 = k
  · have := h c hc e
    simp [e]; omega
  · simp [e]
theorem liveN_filter (X : List S98) (now : Int) : liveN (X.filter fun c => decide (now < c.f2)) now = liveN X now := by
  unfold liveN; rw [List.filter_filter]; congr 1; refine List.filter_congr fun c hc => ?_; simp
theorem liveN_snoc (X : List S98) (now : Int) (c : S98) (h : now < c.f2) : liveN (X ++ [c]) now = liveN X now + 1 := by
  unfold liveN; rw [List.filter_append, List.length_append, List.filter_cons, if_pos (by simpa using h)]; rfl
theorem RI.next {r m most : Nat} {L L' : List S98} {n code : Int} (h : RI r m L) (hn : ((kvC L).map (·.1)).Nodup) (hm : m < most) (ha : Added L most (kj (m + r)) 1 (10 * r + 10) (10 * r) n code L') : n = 1 ∧ code = 0 ∧ RI r (m + 1) L' := by
  have hd := h.dead hn (Nat.le_refl m)
  obtain ⟨a, b, c⟩ := ha.new (by omega) (by omega) hd (by rw [h.cnt]; exact hm)
  refine ⟨a.trans (by decide), b, ?_⟩
  generalize hX : (if hasB L (kj (m + r)) = false ∧ most ≤ L.length then L.filter fun c => decide ((10 * r : Int) < c.f2) else L) = X at c
  have hsub : ∀ c ∈ X, c ∈ L := by
    intro c hc
    rw [← hX] at hc
    split at hc
    · exact (List.mem_filter.1 hc).1
    · exact hc
  have hcnt : liveN X (10 * r : Int) = m := by
    rw [← hX]
    split
    · rw [liveN_filter]; exact h.cnt
    · exact h.cnt
  have hk : ∀ c ∈ X, c.f0 = kj (m + r) → c.f2 ≤ (10 * r : Int) := by
    intro c hc e
    rcases h.ds c (hsub c hc) with h2 | h2
    · obtain ⟨j, hj, e2⟩ := h.ks c (hsub c hc) h2
      have := kj_inj (e2.symm.trans e)
      omega
    · exact h2
  subst c
  refine ⟨?_, ?_, ?_⟩
  · rw [liveN_snoc _ _ _ (by show (10 * r : Int) < 10 * r + 10; omega), liveN_wo hk, hcnt]
  · intro c hc e
    rcases List.mem_append.1 hc with hc | hc
    · obtain ⟨j, hj, e2⟩ := h.ks c (hsub c (wo_mem hc).1) e
      exact ⟨j, by omega, e2⟩
    · obtain rfl := List.mem_singleton.1 hc
      exact ⟨m, by omega, rfl⟩
  · intro c hc
    rcases List.mem_append.1 hc with hc | hc
    · exact h.ds c (hsub c (wo_mem hc).1)
    · obtain rfl := List.mem_singleton.1 hc
      exact .inl rfl
theorem RI.full {r m most i : Nat} {L L' : List S98} {n code : Int} (h : RI r m L) (hn : ((kvC L).map (·.1)).Nodup) (hm : m = most) (hi : m ≤ i) (ha : Added L most (kj (i + r)) 1 (10 * r + 10) (10 * r) n code L') : n = 0 ∧ code = 6 ∧ L' = L :=
  ha.full (by omega) (by omega) (h.dead hn hi) (by rw [h.cnt]; omega)
theorem RI.nil : RI 0 0 [] := ⟨rfl, fun c hc => (List.not_mem_nil hc).elim, fun c hc => (List.not_mem_nil hc).elim⟩
theorem RI.live9 {r m : Nat} {L : List S98} (h : RI r m L) : liveN L (10 * r + 9 : Int) = m := by
  rw [← h.cnt]
  unfold liveN
  congr 1
  refine List.filter_congr fun c hc => ?_
  rcases h.ds c hc with e | e
  · rw [decide_eq_true (by omega), decide_eq_true (by omega)]
  · rw [decide_eq_false (by omega), decide_eq_false (by omega)]
theorem RI.live10 {r m : Nat} {L : List S98} (h : RI r m L) : liveN L (10 * r + 10 : Int) = 0 := by
  unfold liveN
  rw [List.filter_eq_nil_iff.2]
  · rfl
  · intro c hc
    rcases h.ds c hc with e | e <;> simp <;> omega
theorem RI.turn {m : Nat} {L : List S98} (h : RI 0 m L) : RI 1 0 L := by
  refine ⟨h.live10, fun c hc e => ?_, fun c hc => .inr ?_⟩
  · rcases h.ds c hc with e2 | e2 <;> omega
  · rcases h.ds c hc with e2 | e2 <;> omega
/-- A cache in its round. -/
def CR (w0 w : World) (cb n r m : Nat) : Prop := ∃ L, CA w0 w cb n L ∧ RI r m L
section
variable {w0 w : World} {cb n r m : Nat}
theorem CR.next (h : CR w0 w cb n r m) (hm : m < n) (hr : r ≤ 1) (hn : n ≤ 900) : Calls Try.prog 41 #[.pointer (some ⟨cb, 0, none⟩), .string (kj (m + r)), .int .i64 1, .int .i64 (10 * r + 10 : Int), .int .i64 (10 * r : Int)] w fun e w' => e = .returned (.tuple #[.int .i64 1, .int .i64 0]) ∧ CR w0 w' cb n r (m + 1) := by
  obtain ⟨L, h1, h2⟩ := h
  refine (h1.add _ (kj_size _ (by omega)) _ _ _).mono ?_
  rintro e w' ⟨n', code, L', a, h3, h4⟩
  obtain ⟨rfl, rfl, h5⟩ := h2.next h1.nd hm h4
  exact ⟨a, L', h3, h5⟩
theorem CR.full (h : CR w0 w cb n r m) (hm : m = n) (hr : r ≤ 1) (i : Nat) (hi : n ≤ i) (hn : i ≤ 900) : Calls Try.prog 41 #[.pointer (some ⟨cb, 0, none⟩), .string (kj (i + r)), .int .i64 1, .int .i64 (10 * r + 10 : Int), .int .i64 (10 * r : Int)] w fun e w' => e = .returned (.tuple #[.int .i64 0, .int .i64 6]) ∧ CR w0 w' cb n r m := by
  obtain ⟨L, h1, h2⟩ := h
  refine (h1.add _ (kj_size _ (by omega)) _ _ _).mono ?_
  rintro e w' ⟨n', code, L', a, h3, h4⟩
  obtain ⟨rfl, rfl, rfl⟩ := h2.full h1.nd hm (by omega) h4
  exact ⟨a, L', h3, h2⟩
theorem CR.live9 (h : CR w0 w cb n r m) : Calls Try.prog 44 #[.pointer (some ⟨cb, 0, none⟩), .int .i64 (10 * r + 9 : Int)] w fun e w' => e = .returned (.int .i64 (m : Nat)) ∧ w = w' := by
  obtain ⟨L, h1, h2⟩ := h
  have := h1.live_n (10 * r + 9 : Int)
  rw [h2.live9] at this
  exact this
theorem CR.live10 (h : CR w0 w cb n r m) : Calls Try.prog 44 #[.pointer (some ⟨cb, 0, none⟩), .int .i64 (10 * r + 10 : Int)] w fun e w' => e = .returned (.int .i64 0) ∧ w = w' := by
  obtain ⟨L, h1, h2⟩ := h
  have := h1.live_n (10 * r + 10 : Int)
  rw [h2.live10] at this
  exact this
theorem CR.held (h : CR w0 w cb n r n) : Calls Try.prog 46 #[.pointer (some ⟨cb, 0, none⟩)] w fun e w' => e = .returned (.int .i64 (n : Nat)) ∧ w = w' := by
  obtain ⟨L, h1, h2⟩ := h
  have := h1.held
  have e : L.length = n := by
    have h3 := h1.len
    have h4 := liveN_le L (10 * r : Int)
    rw [h2.cnt] at h4
    omega
  rw [e] at this
  exact this
theorem CR.turn (h : CR w0 w cb n 0 m) : CR w0 w cb n 1 0 := by
  obtain ⟨L, h1, h2⟩ := h
  exact ⟨L, h1, h2.turn⟩
theorem CR.f (h : CR w0 w cb n r m) : Frm (fun _ => False) w0 w := by
  obtain ⟨L, h1, h2⟩ := h
  exact h1.f
theorem CR.movedN {w1 : World} (h : CR w0 w cb n r m) (f : Frm (fun _ => False) w w1) : CR w0 w1 cb n r m := by
  obtain ⟨L, ⟨pt, b, pw, Sw, h1⟩, h2⟩ := h
  exact ⟨L, ⟨pt, b, pw, Sw, h1.movedN f⟩, h2⟩
end
theorem room_new (n : Nat) (hn : 1 ≤ n) (hN : n ≤ 4096) (w : World) : Calls Try.prog 40 #[.int .i64 (n : Int)] w fun e w' => ∃ cb, e = .returned (.tuple #[.pointer (some ⟨cb, 0, none⟩), .int .i64 0]) ∧ CR w w' cb n 0 0 := by
  refine (cnewA n hn hN w).mono ?_
  rintro e w' ⟨cb, a, h⟩
  exact ⟨cb, a, [], h, RI.nil⟩
end Go.Proofs.Ytjgoddieamphpaa.Ca
